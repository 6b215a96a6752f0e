/-
  Layer 19: a copy of an image, whose instructions more may be appended to. Layer 19: what nothing comes to does not matter: behind the appending. Layer 19: the loop: what nothing comes to does not matter: behind the appending. Layer 19: the copies: what nothing comes to does not matter: behind the appending. Layer 19: what nothing comes to does not matter: the walk.
-/
import Derived.Test.YtejkaalhjocmgaaDoorZa
import Derived.Deep.RegionHeld3
import Derived.Deep.QuietTactic
import Derived.BigQuiet
namespace Go.Proofs.YtejkaalhjocmgaaDoor
open Go.RowKit
set_option maxHeartbeats 1000000
set_option maxRecDepth 100000
theorem copied_end2 {w W1 wl : World} (h1 : Chg (fun _ => False) w W1) (hz : W1.heap.size = w.heap.size + 2) (hq : Chg (fun k => W1.heap.size ≤ k) W1 wl) {A1 A2 : Option Addr} {n1 c1 n2 c2 e1 e2 : Nat} {xs ys : List Value} (ho1 : wl.ownsRow (w.heap.size + 2) e1 3 (.slice A1 n1 c1) n1 xs) (ho2 : wl.ownsRow (w.heap.size + 2) e2 3 (.slice A2 n2 c2) n2 ys) (u1 u2 : Value) :
    Rd (fun k => w.heap.size ≤ k) ((wl.setCell ⟨w.heap.size + 1, 0, none⟩ u1).setCell ⟨w.heap.size + 1, 1, none⟩ u2) A1 xs ∧ Rd (fun k => w.heap.size ≤ k) ((wl.setCell ⟨w.heap.size + 1, 0, none⟩ u1).setCell ⟨w.heap.size + 1, 1, none⟩ u2) A2 ys ∧ ((wl.setCell ⟨w.heap.size + 1, 0, none⟩ u1).setCell ⟨w.heap.size + 1, 1, none⟩ u2).ownsRow (w.heap.size + 2) e2 3 (.slice A2 n2 c2) n2 ys ∧ ((wl.setCell ⟨w.heap.size + 1, 0, none⟩ u1).setCell ⟨w.heap.size + 1, 1, none⟩ u2).ownsRow (w.heap.size + 2) e1 3 (.slice A1 n1 c1) n1 xs ∧ Chg (fun _ => False) w ((wl.setCell ⟨w.heap.size + 1, 0, none⟩ u1).setCell ⟨w.heap.size + 1, 1, none⟩ u2) := by
  have hs : Chg (fun k => k = w.heap.size + 1) wl ((wl.setCell ⟨w.heap.size + 1, 0, none⟩ u1).setCell ⟨w.heap.size + 1, 1, none⟩ u2) := ((Chg.refl (fun k => k = w.heap.size + 1) wl).setCell (fun _ => rfl) _).setCell (fun _ => rfl) _
  refine ⟨((own_rd ho1 (by omega)).chg hs (fun k hk _ e => ?_)).mono (fun k hk => ?_), ((own_rd ho2 (by omega)).chg hs (fun k hk _ e => ?_)).mono (fun k hk => ?_), own_chg ho2 hs (fun k hk e => by have := (ho2.lt k hk).1; have e2 : k = w.heap.size + 1 := e; omega), own_chg ho1 hs (fun k hk e => by have := (ho1.lt k hk).1; have e2 : k = w.heap.size + 1 := e; omega), (h1.trans (S' := fun k => W1.heap.size ≤ k) hq (fun k hk e => by omega)).trans hs (fun k hk e => by omega)⟩
  · have := (ho1.lt k hk).1; omega
  · have := (ho1.lt k hk).1; omega
  · have := (ho2.lt k hk).1; omega
  · have := (ho2.lt k hk).1; omega
theorem copied_own (m : Im) (c d : Nat) (A B : Option Addr) (T : Nat → Prop) (w : World) (hp : Rd T w A (m.pool.flatMap cstv)) (hc : Rd T w B (m.code.flatMap insv)) (hpn : m.pool.length ≤ 1000000) (hcn : m.code.length ≤ 1000000) :
    Calls Tryd.prog 11 #[.agg #[.slice A m.pool.length c, .slice B m.code.length d]] w fun e w' => ∃ A' c' B' d', e = .returned (.agg #[.slice A' m.pool.length c', .slice B' m.code.length d']) ∧ Rd (fun k => w.heap.size ≤ k) w' A' (m.pool.flatMap cstv) ∧ Rd (fun k => w.heap.size ≤ k) w' B' (m.code.flatMap insv) ∧ w'.ownsRow (w.heap.size + 2) 42 3 (.slice B' m.code.length d') m.code.length (m.code.flatMap insv) ∧ w'.ownsRow (w.heap.size + 2) 46 3 (.slice A' m.pool.length c') m.pool.length (m.pool.flatMap cstv) ∧ Chg (fun _ => False) w w' := by
  obtain ⟨p, q⟩ := m
  dsimp only at hp hc hpn hcn ⊢
  obtain ⟨i46, hi46, hz46, hs46, hb46⟩ := info_parts info46
  obtain ⟨i42, hi42, hz42, hs42, hb42⟩ := info_parts info42
  have mp1 : 0 + p.length ≤ maxLen := by simp only [maxLen]; omega
  have mp2 : (0 + p.length) * 32 ≤ 140737488355328 := by omega
  have mq1 : 0 + q.length ≤ maxLen := by simp only [maxLen]; omega
  have mq2 : (0 + q.length) * 24 ≤ 140737488355328 := by omega
  have h1 : Chg (fun _ => False) w ((w.alloc (.cells #[.slice A p.length c, .slice B q.length d] 25)).alloc (.cells #[.slice none 0 0, .slice none 0 0] 25)) := ((Chg.refl _ w).alloc _).alloc _
  have K1 : CopK w.heap.size A B p q c d ((w.alloc (.cells #[.slice A p.length c, .slice B q.length d] 25)).alloc (.cells #[.slice none 0 0, .slice none 0 0] 25)) :=
    ⟨(Blk.new _ _ _).alloc _, Blk.new_at _ _ _ _ (by simp), hp.old.chg h1 (fun _ _ _ => id), hc.old.chg h1 (fun _ _ _ => id)⟩
  have x0 := K1.bx.cell 0
  have x1 := K1.bx.cell 1
  simp only [List.getElem?_toArray, List.getElem?_cons_zero, List.getElem?_cons_succ] at x0 x1
  have hz : ((w.alloc (.cells #[.slice A p.length c, .slice B q.length d] 25)).alloc (.cells #[.slice none 0 0, .slice none 0 0] 25)).heap.size = w.heap.size + 2 := by simp
  have HZ := hide hz
  have HK := hide K1
  have H1 := hide h1
  clear hp hc hz h1 K1
  go_enter Tryd.func11, Tryd.ntmps11
  go_upto_region 1 with fail
  generalize (w.alloc (.cells #[.slice A p.length c, .slice B q.length d] 25)).alloc (.cells #[.slice none 0 0, .slice none 0 0] 25) = W1 at *
  have hge : w.heap.size + 2 ≤ W1.heap.size := Nat.le_of_eq (unhide HZ).symm
  have hge1 : w.heap.size + 2 ≤ W1.heap.size + 1 := Nat.le_succ_of_le hge
  have hS : ∀ k, W1.heap.size ≤ k → w.heap.size + 2 ≤ k := fun k hk => Nat.le_trans hge hk
  refine wp_region_noPanic ?_
  go_region_held3 (fun W' => W'.cell? ⟨w.heap.size, 0, none⟩ = some (.slice A p.length c) ∧ W'.cell? ⟨w.heap.size, 1, none⟩ = some (.slice B q.length d)) (go_keep) (first
    | (refine step_append_rd _ rfl (.tmp 3) (.tmp 5) 22 rfl (w.heap.size + 2) 46 i46 _ 3 32 Tryd.underlying22 hi46 hz46 hs46 hb46 rfl (Nat.succ_pos 2) _ 0 [] rfl ?_ (fun k => k < w.heap.size) A p.length c (p.flatMap cstv) rfl (cst_len p) ?_ (cst_one p) mp1 mp2 ?_ ?_; (first | exact own_empty (Blk.new W1 46 #[]) hge | exact own_empty ((Blk.new W1 46 #[]).alloc _) hge | exact own_empty (Blk.new_at _ _ 46 #[] (by simp)) hge1 | exact own_empty (Blk.chg (Blk.drew ((Blk.new W1 46 #[]).alloc _)) (unhide HC2) (fun e => by have := own_only e; omega)) hge | exact own_empty (Blk.chg (Blk.drew (Blk.new_at (W1.alloc _) (W1.heap.size + 1) 46 #[] (by simp))) (unhide HC2) (fun e => by have := own_only e; omega)) hge1 | exact own_empty (Blk.new _ 46 #[]) (Nat.le_trans hge (unhide HQ2).size)); (first | exact ((unhide HK).chg ((Chg.refl (fun k => W1.heap.size ≤ k) W1).alloc _).drew hS).pl | exact ((unhide HK).chg (((Chg.refl (fun k => W1.heap.size ≤ k) W1).alloc _).alloc _).drew hS).pl | exact ((unhide HK).chg (unhide HQ2) hS).pl | exact ((unhide HK).chg ((unhide HQ2).alloc _) hS).pl); (first | exact Nat.le_trans hge (Chg.size ((Chg.refl (fun k => W1.heap.size ≤ k) W1).alloc _).drew) | exact Nat.le_trans hge (Chg.size (((Chg.refl (fun k => W1.heap.size ≤ k) W1).alloc _).alloc _).drew) | exact Nat.le_trans hge (Chg.size (unhide HQ2)) | exact Nat.le_trans hge (Chg.size ((unhide HQ2).alloc _))); intro v1 w1 ho1 hc1 hat1; simp only [Nat.zero_add, List.nil_append] at ho1; have HO1 := hide ho1; have HA1 := hide hat1; (first | have HQ1 := hide (show Chg (fun k => W1.heap.size ≤ k) W1 w1 from Chg.trans ((Chg.refl (fun k => W1.heap.size ≤ k) W1).alloc _).drew hc1 (fun k hk e => by have := own_only e; omega)) | have HQ1 := hide (show Chg (fun k => W1.heap.size ≤ k) W1 w1 from Chg.trans (((Chg.refl (fun k => W1.heap.size ≤ k) W1).alloc _).alloc _).drew hc1 (fun k hk e => by have := own_only e; omega)) | have HQ1 := hide (show Chg (fun k => W1.heap.size ≤ k) W1 w1 from Chg.trans (unhide HQ2) hc1 (fun k hk e => by have := own_only e; have := (unhide HQ2).size; omega)) | have HQ1 := hide (show Chg (fun k => W1.heap.size ≤ k) W1 w1 from Chg.trans ((unhide HQ2).alloc _) hc1 (fun k hk e => by have := own_only e; have := (unhide HQ2).size; omega))); have HC1 := hide hc1; have kk1 := (unhide HK).chg (unhide HQ1) hS; have y10 := kk1.bx.cell 0; have y11 := kk1.bx.cell 1; have r10 := kk1.rs.cell 0; have r11 := kk1.rs.cell 1; have f10 := kk1.rs.frozen 0; have f11 := kk1.rs.frozen 1; simp only [List.getElem?_toArray, List.getElem?_cons_zero, List.getElem?_cons_succ] at y10 y11 r10 r11; obtain ⟨A1, c1, rfl⟩ := own_val ho1; clear ho1 hc1 hat1 kk1)
    | (refine step_append_rd _ rfl (.tmp 7) (.tmp 9) 23 rfl (w.heap.size + 2) 42 i42 _ 3 24 Tryd.underlying23 hi42 hz42 hs42 hb42 rfl (Nat.succ_pos 2) _ 0 [] rfl ?_ (fun k => k < w.heap.size) B q.length d (q.flatMap insv) rfl (ins_len q) ?_ (ins_one q) mq1 mq2 ?_ ?_; (first | exact own_empty (Blk.new W1 42 #[]) hge | exact own_empty ((Blk.new W1 42 #[]).alloc _) hge | exact own_empty (Blk.new_at _ _ 42 #[] (by simp)) hge1 | exact own_empty (Blk.chg (Blk.drew ((Blk.new W1 42 #[]).alloc _)) (unhide HC1) (fun e => by have := own_only e; omega)) hge | exact own_empty (Blk.chg (Blk.drew (Blk.new_at (W1.alloc _) (W1.heap.size + 1) 42 #[] (by simp))) (unhide HC1) (fun e => by have := own_only e; omega)) hge1 | exact own_empty (Blk.new _ 42 #[]) (Nat.le_trans hge (unhide HQ1).size)); (first | exact ((unhide HK).chg ((Chg.refl (fun k => W1.heap.size ≤ k) W1).alloc _).drew hS).cd | exact ((unhide HK).chg (((Chg.refl (fun k => W1.heap.size ≤ k) W1).alloc _).alloc _).drew hS).cd | exact ((unhide HK).chg (unhide HQ1) hS).cd | exact ((unhide HK).chg ((unhide HQ1).alloc _) hS).cd); (first | exact Nat.le_trans hge (Chg.size ((Chg.refl (fun k => W1.heap.size ≤ k) W1).alloc _).drew) | exact Nat.le_trans hge (Chg.size (((Chg.refl (fun k => W1.heap.size ≤ k) W1).alloc _).alloc _).drew) | exact Nat.le_trans hge (Chg.size (unhide HQ1)) | exact Nat.le_trans hge (Chg.size ((unhide HQ1).alloc _))); intro v2 w2 ho2 hc2 hat2; simp only [Nat.zero_add, List.nil_append] at ho2; have HO2 := hide ho2; have HA2 := hide hat2; (first | have HQ2 := hide (show Chg (fun k => W1.heap.size ≤ k) W1 w2 from Chg.trans ((Chg.refl (fun k => W1.heap.size ≤ k) W1).alloc _).drew hc2 (fun k hk e => by have := own_only e; omega)) | have HQ2 := hide (show Chg (fun k => W1.heap.size ≤ k) W1 w2 from Chg.trans (((Chg.refl (fun k => W1.heap.size ≤ k) W1).alloc _).alloc _).drew hc2 (fun k hk e => by have := own_only e; omega)) | have HQ2 := hide (show Chg (fun k => W1.heap.size ≤ k) W1 w2 from Chg.trans (unhide HQ1) hc2 (fun k hk e => by have := own_only e; have := (unhide HQ1).size; omega)) | have HQ2 := hide (show Chg (fun k => W1.heap.size ≤ k) W1 w2 from Chg.trans ((unhide HQ1).alloc _) hc2 (fun k hk e => by have := own_only e; have := (unhide HQ1).size; omega))); have HC2 := hide hc2; have kk2 := (unhide HK).chg (unhide HQ2) hS; have y20 := kk2.bx.cell 0; have y21 := kk2.bx.cell 1; have r20 := kk2.rs.cell 0; have r21 := kk2.rs.cell 1; have f20 := kk2.rs.frozen 0; have f21 := kk2.rs.frozen 1; simp only [List.getElem?_toArray, List.getElem?_cons_zero, List.getElem?_cons_succ] at y20 y21 r20 r21; obtain ⟨A2, c2, rfl⟩ := own_val ho2; clear ho2 hc2 hat2 kk2))
  all_goals
    refine NoPanic.normal ?_
    try dsimp only
    go_wp2_with fail
    first
    | have hr := copied_end2 (unhide H1) (unhide HZ) (unhide HQ2) (own_chg ((unhide HO1)) (unhide HC2) (fun k hk e => own_apart (unhide HO1) (unhide HA1) hk e (by first | exact .inr (Nat.le_refl _) | exact .inl ⟨by omega, by simp; omega⟩ | exact .inl ⟨by omega, by simp⟩ | exact .inl ⟨by simp, by simp⟩))) (unhide HO2) (.slice A1 p.length c1) (.slice A2 q.length c2)
    | have hr := copied_end2 (unhide H1) (unhide HZ) (unhide HQ2) (own_chg ((unhide HO1).alloc _) (unhide HC2) (fun k hk e => own_apart (unhide HO1) (unhide HA1) hk e (by first | exact .inr (Nat.le_refl _) | exact .inl ⟨by omega, by simp; omega⟩ | exact .inl ⟨by omega, by simp⟩ | exact .inl ⟨by simp, by simp⟩))) (unhide HO2) (.slice A1 p.length c1) (.slice A2 q.length c2)
    | have hr := copied_end2 (unhide H1) (unhide HZ) (unhide HQ1) (unhide HO1) (own_chg ((unhide HO2)) (unhide HC1) (fun k hk e => own_apart (unhide HO2) (unhide HA2) hk e (by first | exact .inr (Nat.le_refl _) | exact .inl ⟨by omega, by simp; omega⟩ | exact .inl ⟨by omega, by simp⟩ | exact .inl ⟨by simp, by simp⟩))) (.slice A1 p.length c1) (.slice A2 q.length c2)
    | have hr := copied_end2 (unhide H1) (unhide HZ) (unhide HQ1) (unhide HO1) (own_chg ((unhide HO2).alloc _) (unhide HC1) (fun k hk e => own_apart (unhide HO2) (unhide HA2) hk e (by first | exact .inr (Nat.le_refl _) | exact .inl ⟨by omega, by simp; omega⟩ | exact .inl ⟨by omega, by simp⟩ | exact .inl ⟨by simp, by simp⟩))) (.slice A1 p.length c1) (.slice A2 q.length c2)
    exact bodyPost_ret (v := .agg #[.slice A1 p.length c1, .slice A2 q.length c2]) (by simp [results, Tryd.results11, go_sem, *]) rfl ⟨_, _, _, _, rfl, hr⟩
end Go.Proofs.YtejkaalhjocmgaaDoor

namespace Go.Proofs.YtejkaalhjocmgaaDoor
open Go.RowKit
set_option maxHeartbeats 2000000
set_option maxRecDepth 1000000
noncomputable def moreC : Code := (Tryd.f6.body.bind (findAfter 4)).getD .skip
/-- What holds behind the appending. -/
structure MoreSt (m : Im) (l : List Ins) (pA cA : Option Addr) (pc cc bx nb : Nat) (A2 A9 : Option Addr) (c2 c9 : Nat) (w0 w : World) : Prop where
  ch : Chg (fun _ => False) w0 w
  bxB : Blk w bx 25 #[.slice pA m.pool.length pc, .slice cA m.code.length cc]
  nbB : Blk w nb 25 #[.slice A2 m.pool.length c2, .slice A9 (m.code.length + l.length) c9]
  pl : Rd (fun _ => True) w pA (m.pool.flatMap cstv)
  cd : Rd (fun _ => True) w cA (m.code.flatMap insv)
  pl2 : Rd (fun _ => True) w A2 (m.pool.flatMap cstv)
  cd2 : Rd (fun _ => True) w A9 ((m.code ++ l).flatMap insv)
  lay : Lay w
  px : ∀ x ∈ m.pool, x.text.size ≤ 9223372036854775807
  lens : m.pool.length ≤ 60 ∧ m.code.length ≤ 120 ∧ l.length ≤ 60
theorem more_len (m : Im) (l : List Ins) : (moreIm m l).code.length = m.code.length + l.length := by simp [moreIm]
theorem more_bad (x0 x1 x3 x4 x6 x7 x8 x9 x10 x11 x12 x13 x14 x15 x16 x17 x18 x19 x20 x21 x22 x23 x24 x25 x26 x27 x28 x29 x30 x31 x32 x33 x34 x35 x36 x37 x38 x39 x40 x41 x42 x43 x44 x45 x46 x47 x48 x49 x50 x51 x52 x53 x54 x55 x56 x57 x58 x59 x60 x61 x62 x63 x64 x65 x66 x67 x68 x69 x70 x71 x72 x73 x74 x75 x76 x77 x78 x79 x80 x81 x82 x83 x84 x85 x86 x87 x88 x89 x90 x91 x92 x93 : Value) (m : Im) (l : List Ins) (pA cA : Option Addr) (pc cc bx nb : Nat) (A2 A9 : Option Addr) (c2 c9 : Nat) (w0 w : World) (h : MoreSt m l pA cA pc cc bx nb A2 A9 c2 c9 w0 w) (hi : (imgE (moreIm m l) != 0) = true) :
    Code.wp Tryd.prog moreC (bodyPost Tryd.prog Tryd.f6 fun e w' => e = .returned (.bool true) ∧ Chg (fun _ => False) w0 w') ⟨#[x0, x1, .pointer (some ⟨bx, 0, none⟩), x3, x4, .pointer (some ⟨nb, 0, none⟩), x6, x7, x8, x9, x10, x11, x12, x13, x14, x15, x16, x17, x18, x19, x20, x21, x22, x23, x24, x25, x26, x27, x28, x29, x30, x31, x32, x33, x34, x35, x36, x37, x38, x39, x40, x41, x42, x43, x44, x45, x46, x47, x48, x49, x50, x51, x52, x53, x54, x55, x56, x57, x58, x59, x60, x61, x62, x63, x64, x65, x66, x67, x68, x69, x70, x71, x72, x73, x74, x75, x76, x77, x78, x79, x80, x81, x82, x83, x84, x85, x86, x87, x88, x89, x90, x91, x92, x93], []⟩ w := by
  have hve : verE (moreIm m l) = imgE (moreIm m l) := if_neg (bne_iff_ne.1 hi)
  have HI := hide (fun W (hW : Chg (fun _ => False) w W) => (show Calls Tryd.prog 18 #[.agg #[.slice A2 m.pool.length c2, .slice A9 (m.code.length + l.length) c9]] W fun e w' => e = .returned (.int .i64 (imgE (moreIm m l))) ∧ Chg (fun _ => False) W w' from by
    have := refImg_any (moreIm m l) c2 c9 A2 A9 _ _ W (h.pl2.chg hW (fun _ _ _ => id)) (h.cd2.chg hW (fun _ _ _ => id)) (by have := h.lens; show m.pool.length ≤ _; omega) (by have := h.lens; rw [more_len]; omega) h.px
    rw [more_len] at this
    exact this))
  have HV := hide (fun W (hW : Chg (fun _ => False) w W) => (show Calls Tryd.prog 13 #[.agg #[.slice A2 m.pool.length c2, .slice A9 (m.code.length + l.length) c9]] W fun e w' => e = .returned (.int .i64 (verE (moreIm m l))) ∧ Chg (fun _ => False) W w' from by
    have := verify_any (moreIm m l) A2 A9 c2 c9 _ _ W (h.pl2.chg hW (fun _ _ _ => id)) (h.cd2.chg hW (fun _ _ _ => id)) (by have := h.lens; rw [more_len]; omega) (by have := h.lens; show m.pool.length ≤ _; omega) h.px (h.lay.chg hW (fun _ _ => id))
    rw [more_len] at this
    exact this))
  have n0 := h.nbB.cell 0
  have n1 := h.nbB.cell 1
  simp only [List.getElem?_toArray, List.getElem?_cons_zero, List.getElem?_cons_succ] at n0 n1
  have HN := hide h.nbB
  have H := hide h
  rw [hve] at HV
  clear h hve
  generalize imgE (moreIm m l) = E at *
  conv => arg 2; whnf
  go_upto_region 6 with (go_at_call 18; refine (unhide HI _ (Chg.refl _ _)).mono ?_; rintro e w2 ⟨rfl, hch⟩; have HC2 := hide hch; have hk := (unhide HN).chg hch id; have y0 := hk.cell 0; have y1 := hk.cell 1; simp only [List.getElem?_toArray, List.getElem?_cons_zero, List.getElem?_cons_succ] at y0 y1; clear hk hch)
  have HCH := hide (unhide HC2).drew
  refine wp_region_noPanic ?_
  go_region_held3 (fun W' => W'.cell? ⟨nb, 0, none⟩ = some (.slice A2 m.pool.length c2) ∧ W'.cell? ⟨nb, 1, none⟩ = some (.slice A9 (m.code.length + l.length) c9)) (first | exact unhide HKK | go_keep) (first
    | (go_at_call 13; refine (unhide HV _ (unhide HCH)).mono ?_; rintro e w3 ⟨rfl, hch⟩; have HN_ := hide ((unhide HCH).trans' hch); clear HCH; have HCH := HN_; clear HN_; have HKK := hide (show w3.cell? ⟨nb, 0, none⟩ = some (.slice A2 m.pool.length c2) ∧ w3.cell? ⟨nb, 1, none⟩ = some (.slice A9 (m.code.length + l.length) c9) from ⟨((unhide HN).chg (unhide HCH) id).cell 0, ((unhide HN).chg (unhide HCH) id).cell 1⟩); clear hch)
    | (go_at_call 18; refine (unhide HI _ (unhide HCH)).mono ?_; rintro e w4 ⟨rfl, hch⟩; have HN_ := hide ((unhide HCH).trans' hch); clear HCH; have HCH := HN_; clear HN_; have HKK := hide (show w4.cell? ⟨nb, 0, none⟩ = some (.slice A2 m.pool.length c2) ∧ w4.cell? ⟨nb, 1, none⟩ = some (.slice A9 (m.code.length + l.length) c9) from ⟨((unhide HN).chg (unhide HCH) id).cell 0, ((unhide HN).chg (unhide HCH) id).cell 1⟩); clear hch))
  all_goals
    refine NoPanic.normal ?_
    try dsimp only
    go_wp2_with fail
    go_ret
    exact ⟨rfl, (unhide H).ch.trans' (unhide HCH)⟩
end Go.Proofs.YtejkaalhjocmgaaDoor

namespace Go.Proofs.YtejkaalhjocmgaaDoor
open Go.RowKit
set_option maxHeartbeats 2000000
set_option maxRecDepth 1000000
noncomputable def moreL : Code := (Tryd.f6.body.bind (findAfter 7)).getD .skip
theorem more_img {m : Im} {l : List Ins} (hv : verE m = 0) (hi : imgE (moreIm m l) = 0) : verE (moreIm m l) = 0 := by
  unfold verE
  rw [if_pos hi, if_pos (goodB_iff.2 (more_good (ver_ok hv).2 l))]
theorem more_dep {m : Im} {l : List Ins} (hg : Good conB m) {k : Nat} : (k < m.code.length → depAt (moreIm m l) k = depAt m k) ∧ (m.code.length ≤ k → depAt (moreIm m l) k = -1) := by
  have hg2 := more_good hg l
  refine ⟨fun _ => ?_, fun hk => ?_⟩
  · by_cases hr : ∃ s, Reach conB m k s
    · obtain ⟨s, hs⟩ := hr
      rw [depAt_some hg hs, depAt_some hg2 ((more_reach hg l k s).2 hs)]
    · rw [depAt_none hr, depAt_none (fun ⟨s, hs⟩ => hr ⟨s, (more_reach hg l k s).1 hs⟩)]
  · exact depAt_none (fun ⟨s, hs⟩ => by have := hg.lt k s ((more_reach hg l k s).1 hs); omega)
theorem more_loop (x0 x1 x2 x3 x4 x8 x9 x10 x11 x12 x13 x14 x15 x16 x17 x18 x19 x20 x21 x22 x23 x24 x25 x26 x27 x28 x29 x30 x31 x32 x33 x34 x35 x36 x37 x38 x39 x40 x41 x42 x43 x44 x45 x46 x47 x48 x49 x50 x51 x52 x53 x54 x55 x56 x57 x58 x59 x60 x61 x62 x63 x64 x65 x66 x67 x68 x69 x70 x71 x72 x73 x74 x75 x76 x77 x78 x79 x80 x81 x82 x83 x84 x85 x86 x87 x88 x89 x90 x91 x92 x93 : Value) (m : Im) (l : List Ins) (pA cA : Option Addr) (pc cc bx nb : Nat) (A2 A9 : Option Addr) (c2 c9 : Nat) (w0 w : World) (h : MoreSt m l pA cA pc cc bx nb A2 A9 c2 c9 w0 w) (hv : verE m = 0) (hi : imgE (moreIm m l) = 0) (cd ce : Nat) (Ad Ae : Option Addr) (hd : RdI (fun _ => True) w (.slice Ad m.code.length cd) ((List.range m.code.length).map (depAt m))) (he : RdI (fun _ => True) w (.slice Ae (m.code.length + l.length) ce) ((List.range (m.code.length + l.length)).map (depAt (moreIm m l)))) :
    Code.wp Tryd.prog moreL (bodyPost Tryd.prog Tryd.f6 fun e w' => e = .returned (.bool true) ∧ Chg (fun _ => False) w0 w') ⟨#[x0, x1, x2, x3, x4, .pointer (some ⟨nb, 0, none⟩), .slice Ad m.code.length cd, .slice Ae (m.code.length + l.length) ce, x8, x9, x10, x11, x12, x13, x14, x15, x16, x17, x18, x19, x20, x21, x22, x23, x24, x25, x26, x27, x28, x29, x30, x31, x32, x33, x34, x35, x36, x37, x38, x39, x40, x41, x42, x43, x44, x45, x46, x47, x48, x49, x50, x51, x52, x53, x54, x55, x56, x57, x58, x59, x60, x61, x62, x63, x64, x65, x66, x67, x68, x69, x70, x71, x72, x73, x74, x75, x76, x77, x78, x79, x80, x81, x82, x83, x84, x85, x86, x87, x88, x89, x90, x91, x92, x93], []⟩ w := by
  have HI := hide (fun W (hW : Chg (fun _ => False) w W) => (show Calls Tryd.prog 18 #[.agg #[.slice A2 m.pool.length c2, .slice A9 (m.code.length + l.length) c9]] W fun e w' => e = .returned (.int .i64 (imgE (moreIm m l))) ∧ Chg (fun _ => False) W w' from by
    have := refImg_any (moreIm m l) c2 c9 A2 A9 _ _ W (h.pl2.chg hW (fun _ _ _ => id)) (h.cd2.chg hW (fun _ _ _ => id)) (by have := h.lens; show m.pool.length ≤ _; omega) (by have := h.lens; rw [more_len]; omega) h.px
    rw [more_len] at this
    exact this))
  have HV := hide (fun W (hW : Chg (fun _ => False) w W) => (show Calls Tryd.prog 13 #[.agg #[.slice A2 m.pool.length c2, .slice A9 (m.code.length + l.length) c9]] W fun e w' => e = .returned (.int .i64 (verE (moreIm m l))) ∧ Chg (fun _ => False) W w' from by
    have := verify_any (moreIm m l) A2 A9 c2 c9 _ _ W (h.pl2.chg hW (fun _ _ _ => id)) (h.cd2.chg hW (fun _ _ _ => id)) (by have := h.lens; rw [more_len]; omega) (by have := h.lens; show m.pool.length ≤ _; omega) h.px (h.lay.chg hW (fun _ _ => id))
    rw [more_len] at this
    exact this))
  have n0 := h.nbB.cell 0
  have n1 := h.nbB.cell 1
  simp only [List.getElem?_toArray, List.getElem?_cons_zero, List.getElem?_cons_succ] at n0 n1
  have HN := hide h.nbB
  have H := hide h
  rw [more_img hv hi] at HV
  have hg := (ver_ok hv).2
  have hpos := hg.pos
  have hlen := h.lens
  have hne : (List.range m.code.length).map (depAt m) ≠ [] := fun e => by have := congrArg List.length e; rw [List.length_map, List.length_range, List.length_nil] at this; omega
  have hne2 : (List.range (m.code.length + l.length)).map (depAt (moreIm m l)) ≠ [] := fun e => by have := congrArg List.length e; rw [List.length_map, List.length_range, List.length_nil] at this; omega
  obtain ⟨bd, od, rfl, hcd⟩ := tell_cells hd hne
  obtain ⟨be, oe, rfl, hce⟩ := tell_cells he hne2
  have HCD := hide hcd
  have HCE := hide hce
  have HMD := hide (fun k => more_dep (l := l) hg (k := k))
  obtain ⟨n, hnn⟩ : ∃ n, m.code.length = n := ⟨_, rfl⟩
  obtain ⟨q, hqq⟩ : ∃ q, m.code.length + l.length = q := ⟨_, rfl⟩
  have hq1 : n ≤ q := by omega
  have hq2 : q ≤ 180 := by omega
  have hq3 : 0 < q := by omega
  have HNN := hide hnn
  have HQQ := hide hqq
  rw [hqq] at HV n1 HN HCE ⊢
  rw [hnn] at HMD HCD hpos ⊢
  clear h hd he hcd hce hne hne2 hg hnn hqq hlen HI hv hi
  conv => arg 2; whnf
  go_wp2_with fail
  go_loopw [8] (fun i wr => ∃ k : Nat, i = .int .i64 k ∧ k ≤ q ∧ Chg (fun _ => False) w wr) (fun i _ => q - (intOf i).toNat)
  case atStart => exact ⟨0, rfl, Nat.zero_le _, Chg.refl _ _⟩
  case round =>
    obtain ⟨wq, rfl⟩ : ∃ wq : World, wq = wr := ⟨_, rfl⟩
    obtain ⟨k, rfl, hk, hch⟩ := hrel
    by_cases hlt : k < q
    · have e0 := (hch.cell (hat_lt ((unhide HCE) k hlt)) id).trans ((unhide HCE) k hlt)
      by_cases hkn : k < n
      · have d0 := (hch.cell (hat_lt ((unhide HCD) k hkn)) id).trans ((unhide HCD) k hkn)
        rw [((unhide HMD) k).1 hkn] at e0
        have t1 : decide ((k : Int) < (n : Int)) = true := decide_eq_true (by omega)
        have t2 : decide ((n : Int) ≤ (k : Int)) = false := decide_eq_false (by omega)
        have t3 : decide (k < n) = true := decide_eq_true hkn
        have t4 : decide (n ≤ k) = false := decide_eq_false (by omega)
        have t5 : (k : Int) < (n : Int) := by omega
        have t6 : (k : Int) < (q : Int) := by omega
        have HCH := hide hch
        generalize depAt m k = x at *
        clear hch
        go_wp2_with fail
        go_quiet (fail)
        go_wp2_with fail
        go_roundw
        case rel => exact ⟨k + 1, by go_num, by omega, (unhide HCH).drewN _⟩
        case measure => simp [intOf]; omega
      · rw [((unhide HMD) k).2 (by omega)] at e0
        have t1 : decide ((k : Int) < (n : Int)) = false := decide_eq_false (by omega)
        have t2 : decide ((n : Int) ≤ (k : Int)) = true := decide_eq_true (by omega)
        have t3 : decide (k < n) = false := decide_eq_false hkn
        have t4 : decide (n ≤ k) = true := decide_eq_true (by omega)
        have t6 : (k : Int) < (q : Int) := by omega
        have HCH := hide hch
        clear hch
        go_wp2_with fail
        go_quiet (fail)
        go_wp2_with fail
        go_roundw
        case rel => exact ⟨k + 1, by go_num, by omega, (unhide HCH).drewN _⟩
        case measure => simp [intOf]; omega
    · obtain rfl : k = q := by omega
      have HCH := hide hch
      have hk2 := (unhide HN).chg hch id
      have y0 := hk2.cell 0
      have y1 := hk2.cell 1
      simp only [List.getElem?_toArray, List.getElem?_cons_zero, List.getElem?_cons_succ] at y0 y1
      clear hch hk2
      go_wp2_with (go_at_call 13; refine (unhide HV _ (unhide HCH)).mono ?_; rintro e w3 ⟨rfl, hch⟩; have HC3 := hide ((unhide HCH).trans' hch); have hk3 := (unhide HN).chg (unhide HC3) id; have u0 := hk3.cell 0; have u1 := hk3.cell 1; simp only [List.getElem?_toArray, List.getElem?_cons_zero, List.getElem?_cons_succ] at u0 u1; clear hk3 hch)
      go_ret
      exact ⟨rfl, (unhide H).ch.trans' (unhide HC3)⟩
end Go.Proofs.YtejkaalhjocmgaaDoor

namespace Go.Proofs.YtejkaalhjocmgaaDoor
open Go.RowKit
set_option maxHeartbeats 2000000
set_option maxRecDepth 1000000
/-- A copy of the longer image, and what Depths tells of it. -/
def CpyN (m : Im) (l : List Ins) (W : World) (A B : Option Addr) (c d : Nat) : Prop := ∀ W', Chg (fun _ => False) W W' → Calls Tryd.prog 10 #[.agg #[.slice A m.pool.length c, .slice B (m.code.length + l.length) d]] W' fun e w' => TellOut (depL (moreIm m l)) W' e w'
theorem CpyN.later {m : Im} {l : List Ins} {W W2 : World} {A B : Option Addr} {c d : Nat} (h : CpyN m l W A B c d) (hc : Chg (fun _ => False) W W2) : CpyN m l W2 A B c d := fun W' hW => h W' (hc.trans' hW)
theorem CpyN.dep {m : Im} {l : List Ins} {W : World} {A B : Option Addr} {c d : Nat} (h : CpyN m l W A B c d) : Calls Tryd.prog 10 #[.agg #[.slice A m.pool.length c, .slice B (m.code.length + l.length) d]] W fun e w' => TellOut (depL (moreIm m l)) W e w' := h W (Chg.refl _ _)
theorem copy_more {m : Im} {l : List Ins} {pA cA : Option Addr} {pc cc bx nb : Nat} {A2 A9 : Option Addr} {c2 c9 : Nat} {w0 w : World} (h : MoreSt m l pA cA pc cc bx nb A2 A9 c2 c9 w0 w) (W : World) (hW : Chg (fun _ => False) w W) :
    Calls Tryd.prog 11 #[.agg #[.slice A2 m.pool.length c2, .slice A9 (m.code.length + l.length) c9]] W fun e w' => ∃ A' c' B' d', e = .returned (.agg #[.slice A' m.pool.length c', .slice B' (m.code.length + l.length) d']) ∧ CpyN m l w' A' B' c' d' ∧ Chg (fun _ => False) W w' := by
  have r := copy_any (moreIm m l) A2 A9 c2 c9 _ _ W (h.pl2.chg hW (fun _ _ _ => id)) (h.cd2.chg hW (fun _ _ _ => id)) (by have := h.lens; rw [more_len]; omega) (by have := h.lens; show m.pool.length ≤ _; omega) h.px (h.lay.chg hW (fun _ _ => id))
  rw [more_len] at r
  refine r.mono ?_
  rintro e w' ⟨A', c', B', d', h1, h2, _, _, h3⟩
  refine ⟨A', c', B', d', h1, fun W' hW' => ?_, h3⟩
  have := (h2.later hW').dep
  rw [more_len] at this
  exact this
theorem more_yes (x0 x1 x3 x4 x6 x7 x8 x9 x10 x11 x12 x13 x14 x15 x16 x17 x18 x19 x20 x21 x22 x23 x24 x25 x26 x27 x28 x29 x30 x31 x32 x33 x34 x35 x36 x37 x38 x39 x40 x41 x42 x43 x44 x45 x46 x47 x48 x49 x50 x51 x52 x53 x54 x55 x56 x57 x58 x59 x60 x61 x62 x63 x64 x65 x66 x67 x68 x69 x70 x71 x72 x73 x74 x75 x76 x77 x78 x79 x80 x81 x82 x83 x84 x85 x86 x87 x88 x89 x90 x91 x92 x93 : Value) (m : Im) (l : List Ins) (pA cA : Option Addr) (pc cc bx nb : Nat) (A2 A9 : Option Addr) (c2 c9 : Nat) (w0 w : World) (h : MoreSt m l pA cA pc cc bx nb A2 A9 c2 c9 w0 w) (hv : verE m = 0) (hi : imgE (moreIm m l) = 0) :
    Code.wp Tryd.prog moreC (bodyPost Tryd.prog Tryd.f6 fun e w' => e = .returned (.bool true) ∧ Chg (fun _ => False) w0 w') ⟨#[x0, x1, .pointer (some ⟨bx, 0, none⟩), x3, x4, .pointer (some ⟨nb, 0, none⟩), x6, x7, x8, x9, x10, x11, x12, x13, x14, x15, x16, x17, x18, x19, x20, x21, x22, x23, x24, x25, x26, x27, x28, x29, x30, x31, x32, x33, x34, x35, x36, x37, x38, x39, x40, x41, x42, x43, x44, x45, x46, x47, x48, x49, x50, x51, x52, x53, x54, x55, x56, x57, x58, x59, x60, x61, x62, x63, x64, x65, x66, x67, x68, x69, x70, x71, x72, x73, x74, x75, x76, x77, x78, x79, x80, x81, x82, x83, x84, x85, x86, x87, x88, x89, x90, x91, x92, x93], []⟩ w := by
  have HI := hide (fun W (hW : Chg (fun _ => False) w W) => (show Calls Tryd.prog 18 #[.agg #[.slice A2 m.pool.length c2, .slice A9 (m.code.length + l.length) c9]] W fun e w' => e = .returned (.int .i64 (imgE (moreIm m l))) ∧ Chg (fun _ => False) W w' from by
    have := refImg_any (moreIm m l) c2 c9 A2 A9 _ _ W (h.pl2.chg hW (fun _ _ _ => id)) (h.cd2.chg hW (fun _ _ _ => id)) (by have := h.lens; show m.pool.length ≤ _; omega) (by have := h.lens; rw [more_len]; omega) h.px
    rw [more_len] at this
    exact this))
  have HV := hide (fun W (hW : Chg (fun _ => False) w W) => (show Calls Tryd.prog 13 #[.agg #[.slice A2 m.pool.length c2, .slice A9 (m.code.length + l.length) c9]] W fun e w' => e = .returned (.int .i64 (verE (moreIm m l))) ∧ Chg (fun _ => False) W w' from by
    have := verify_any (moreIm m l) A2 A9 c2 c9 _ _ W (h.pl2.chg hW (fun _ _ _ => id)) (h.cd2.chg hW (fun _ _ _ => id)) (by have := h.lens; rw [more_len]; omega) (by have := h.lens; show m.pool.length ≤ _; omega) h.px (h.lay.chg hW (fun _ _ => id))
    rw [more_len] at this
    exact this))
  have n0 := h.nbB.cell 0
  have n1 := h.nbB.cell 1
  simp only [List.getElem?_toArray, List.getElem?_cons_zero, List.getElem?_cons_succ] at n0 n1
  have HN := hide h.nbB
  have H := hide h
  rw [hi] at HI
  have HBX := hide h.bxB
  have HCM := hide (fun W (hW : Chg (fun _ => False) w W) => copy_any m pA cA pc cc _ _ W (h.pl.chg hW (fun _ _ _ => id)) (h.cd.chg hW (fun _ _ _ => id)) (by have := h.lens; omega) (by have := h.lens; omega) h.px (h.lay.chg hW (fun _ _ => id)))
  have HCN := hide (fun W (hW : Chg (fun _ => False) w W) => copy_more h W hW)
  have HDN := hide (dep_len hv)
  have HEN := hide ((dep_len (more_img hv hi)).trans (more_len m l))
  have HVE := hide hv
  have HIE := hide hi
  have b0 := h.bxB.cell 0
  have b1 := h.bxB.cell 1
  simp only [List.getElem?_toArray, List.getElem?_cons_zero, List.getElem?_cons_succ] at b0 b1
  clear h hv hi
  conv => arg 2; whnf
  go_upto_region 7 with (go_at_call 18; refine (unhide HI _ (Chg.refl _ _)).mono ?_; rintro e w2 ⟨rfl, hch⟩; have HC2 := hide hch; have hk := (unhide HN).chg hch id; have y0 := hk.cell 0; have y1 := hk.cell 1; have hk2 := (unhide HBX).chg hch id; have z0 := hk2.cell 0; have z1 := hk2.cell 1; simp only [List.getElem?_toArray, List.getElem?_cons_zero, List.getElem?_cons_succ] at y0 y1 z0 z1; clear hk hk2 hch)
  rename_i K hK
  have HK := hide hK
  clear hK
  have HCH := hide (unhide HC2).drew
  refine wp_region_noPanic ?_
  go_region_held3 (fun W' => W'.cell? ⟨bx, 0, none⟩ = some (.slice pA m.pool.length pc) ∧ W'.cell? ⟨bx, 1, none⟩ = some (.slice cA m.code.length cc) ∧ W'.cell? ⟨nb, 0, none⟩ = some (.slice A2 m.pool.length c2) ∧ W'.cell? ⟨nb, 1, none⟩ = some (.slice A9 (m.code.length + l.length) c9)) (first | exact unhide HKK | go_keep) (first
    | (go_at_call 11; (with_reducible refine (unhide HCM _ (unhide HCH)).mono ?_); rintro e wa ⟨A1, c1, B1, d1, rfl, hcp, _, _, hch⟩; (first | (have HN_ := hide ((unhide HX1).later hch); clear HX1; have HX1 := HN_; clear HN_) | skip); (first | (have HN_ := hide ((unhide HX2).later hch); clear HX2; have HX2 := HN_; clear HN_) | skip); (first | (have HN_ := hide ((unhide HDV).chg hch (fun _ _ _ => id)); clear HDV; have HDV := HN_; clear HN_) | skip); (first | (have HN_ := hide ((unhide HEV).chg hch (fun _ _ _ => id)); clear HEV; have HEV := HN_; clear HN_) | skip); have HX1 := hide hcp; have HN_ := hide ((unhide HCH).trans' hch); clear HCH; have HCH := HN_; clear HN_; have HKK := hide (show wa.cell? ⟨bx, 0, none⟩ = some (.slice pA m.pool.length pc) ∧ wa.cell? ⟨bx, 1, none⟩ = some (.slice cA m.code.length cc) ∧ wa.cell? ⟨nb, 0, none⟩ = some (.slice A2 m.pool.length c2) ∧ wa.cell? ⟨nb, 1, none⟩ = some (.slice A9 (m.code.length + l.length) c9) from ⟨((unhide HBX).chg (unhide HCH) id).cell 0, ((unhide HBX).chg (unhide HCH) id).cell 1, ((unhide HN).chg (unhide HCH) id).cell 0, ((unhide HN).chg (unhide HCH) id).cell 1⟩); clear hch hcp)
    | (go_at_call 11; (with_reducible refine (unhide HCN _ (unhide HCH)).mono ?_); rintro e wb ⟨A3, c3, B3, d3, rfl, hcp, hch⟩; (first | (have HN_ := hide ((unhide HX1).later hch); clear HX1; have HX1 := HN_; clear HN_) | skip); (first | (have HN_ := hide ((unhide HX2).later hch); clear HX2; have HX2 := HN_; clear HN_) | skip); (first | (have HN_ := hide ((unhide HDV).chg hch (fun _ _ _ => id)); clear HDV; have HDV := HN_; clear HN_) | skip); (first | (have HN_ := hide ((unhide HEV).chg hch (fun _ _ _ => id)); clear HEV; have HEV := HN_; clear HN_) | skip); have HX2 := hide hcp; have HN_ := hide ((unhide HCH).trans' hch); clear HCH; have HCH := HN_; clear HN_; have HKK := hide (show wb.cell? ⟨bx, 0, none⟩ = some (.slice pA m.pool.length pc) ∧ wb.cell? ⟨bx, 1, none⟩ = some (.slice cA m.code.length cc) ∧ wb.cell? ⟨nb, 0, none⟩ = some (.slice A2 m.pool.length c2) ∧ wb.cell? ⟨nb, 1, none⟩ = some (.slice A9 (m.code.length + l.length) c9) from ⟨((unhide HBX).chg (unhide HCH) id).cell 0, ((unhide HBX).chg (unhide HCH) id).cell 1, ((unhide HN).chg (unhide HCH) id).cell 0, ((unhide HN).chg (unhide HCH) id).cell 1⟩); clear hch hcp)
    | (go_at_call 10; (with_reducible refine (unhide HX1).dep.mono ?_); rintro e wd ⟨vd, rfl, hdv, hch⟩; (first | (have HN_ := hide ((unhide HX1).later hch); clear HX1; have HX1 := HN_; clear HN_) | skip); (first | (have HN_ := hide ((unhide HX2).later hch); clear HX2; have HX2 := HN_; clear HN_) | skip); (first | (have HN_ := hide ((unhide HDV).chg hch (fun _ _ _ => id)); clear HDV; have HDV := HN_; clear HN_) | skip); (first | (have HN_ := hide ((unhide HEV).chg hch (fun _ _ _ => id)); clear HEV; have HEV := HN_; clear HN_) | skip); have HDV := hide (hdv.mono (fun _ _ => trivial) : RdI (fun _ => True) _ vd _); have HN_ := hide ((unhide HCH).trans' hch); clear HCH; have HCH := HN_; clear HN_; have HKK := hide (show wd.cell? ⟨bx, 0, none⟩ = some (.slice pA m.pool.length pc) ∧ wd.cell? ⟨bx, 1, none⟩ = some (.slice cA m.code.length cc) ∧ wd.cell? ⟨nb, 0, none⟩ = some (.slice A2 m.pool.length c2) ∧ wd.cell? ⟨nb, 1, none⟩ = some (.slice A9 (m.code.length + l.length) c9) from ⟨((unhide HBX).chg (unhide HCH) id).cell 0, ((unhide HBX).chg (unhide HCH) id).cell 1, ((unhide HN).chg (unhide HCH) id).cell 0, ((unhide HN).chg (unhide HCH) id).cell 1⟩); obtain ⟨Ad, cd, rfl⟩ := (show ∃ A c, vd = .slice A m.code.length c from by obtain ⟨A, c, h⟩ := hdv.val; exact ⟨A, c, by rw [h, unhide HDN]⟩); clear hch hdv)
    | (go_at_call 10; (with_reducible refine (unhide HX2).dep.mono ?_); rintro e we ⟨ve, rfl, hev, hch⟩; (first | (have HN_ := hide ((unhide HX1).later hch); clear HX1; have HX1 := HN_; clear HN_) | skip); (first | (have HN_ := hide ((unhide HX2).later hch); clear HX2; have HX2 := HN_; clear HN_) | skip); (first | (have HN_ := hide ((unhide HDV).chg hch (fun _ _ _ => id)); clear HDV; have HDV := HN_; clear HN_) | skip); (first | (have HN_ := hide ((unhide HEV).chg hch (fun _ _ _ => id)); clear HEV; have HEV := HN_; clear HN_) | skip); have HEV := hide (hev.mono (fun _ _ => trivial) : RdI (fun _ => True) _ ve _); have HN_ := hide ((unhide HCH).trans' hch); clear HCH; have HCH := HN_; clear HN_; have HKK := hide (show we.cell? ⟨bx, 0, none⟩ = some (.slice pA m.pool.length pc) ∧ we.cell? ⟨bx, 1, none⟩ = some (.slice cA m.code.length cc) ∧ we.cell? ⟨nb, 0, none⟩ = some (.slice A2 m.pool.length c2) ∧ we.cell? ⟨nb, 1, none⟩ = some (.slice A9 (m.code.length + l.length) c9) from ⟨((unhide HBX).chg (unhide HCH) id).cell 0, ((unhide HBX).chg (unhide HCH) id).cell 1, ((unhide HN).chg (unhide HCH) id).cell 0, ((unhide HN).chg (unhide HCH) id).cell 1⟩); obtain ⟨Ae, ce, rfl⟩ := (show ∃ A c, ve = .slice A (m.code.length + l.length) c from by obtain ⟨A, c, h⟩ := hev.val; exact ⟨A, c, by rw [h, unhide HEN]⟩); clear hch hev))
  all_goals
    refine NoPanic.normal ?_
    refine unhide HK _ _ ?_
    have hd := unhide HDV
    have he := unhide HEV
    rw [dep_list (unhide HVE)] at hd
    rw [dep_list (more_img (unhide HVE) (unhide HIE)), more_len] at he
    have h := unhide H
    have hc := unhide HCH
    exact more_loop _ _ _ _ _ _ _ _ _ _ _ _ _ _ _ _ _ _ _ _ _ _ _ _ _ _ _ _ _ _ _ _ _ _ _ _ _ _ _ _ _ _ _ _ _ _ _ _ _ _ _ _ _ _ _ _ _ _ _ _ _ _ _ _ _ _ _ _ _ _ _ _ _ _ _ _ _ _ _ _ _ _ _ _ _ _ _ _ _ _ _ m l pA cA pc cc bx nb A2 A9 c2 c9 w0 _ ⟨h.ch.trans' hc, h.bxB.chg hc id, h.nbB.chg hc id, h.pl.chg hc (fun _ _ _ => id), h.cd.chg hc (fun _ _ _ => id), h.pl2.chg hc (fun _ _ _ => id), h.cd2.chg hc (fun _ _ _ => id), h.lay.chg hc (fun _ _ => id), h.px, h.lens⟩ (unhide HVE) (unhide HIE) cd ce Ad Ae hd he
end Go.Proofs.YtejkaalhjocmgaaDoor

namespace Go.Proofs.YtejkaalhjocmgaaDoor
open Go.RowKit
set_option maxHeartbeats 2000000
set_option maxRecDepth 1000000
theorem own_two_ne {w : World} {b e s n b' e' s' n' : Nat} {v v' : Value} {xs xs' : List Value} (h : w.ownsRow b e s v n xs) (h' : w.ownsRow b' e' s' v' n' xs') (hne : e ≠ e') {k : Nat} (hk : v.ownBlock = some k) (hk' : v'.ownBlock = some k) : False := by
  rcases h'.2 with ⟨rfl, _⟩ | ⟨g, cap, cur, rfl, _, hh, _⟩
  · cases hk'
  · have e2 : g = k := by simpa [Value.ownBlock] using hk'
    subst e2
    exact own_blk_ne (t := e') h hh hne hk
theorem more_few (m : Im) (pA cA : Option Addr) (pc cc : Nat) (T T2 : Nat → Prop) (w : World) (hp : Rd T w pA (m.pool.flatMap cstv)) (_hc : Rd T2 w cA (m.code.flatMap insv)) (hpn : m.pool.length ≤ 9223372036854775807) (hcn : m.code.length ≤ 9223372036854775807) (px : ∀ x ∈ m.pool, x.text.size ≤ 9223372036854775807) (lay : Lay w) (l : List Ins) (M : Option Addr) (mc : Nat) (_hm : Rd T w M (l.flatMap insv)) (_hml : l.length ≤ 9223372036854775807) (hf : fewB m = false) : Calls Tryd.prog 6 #[.agg #[.slice pA m.pool.length pc, .slice cA m.code.length cc], .slice M l.length mc] w fun e w' => e = .returned (.bool true) ∧ Chg (fun _ => False) w w' := by
  have b1 := Blk.new w 25 #[.slice pA m.pool.length pc, .slice cA m.code.length cc]
  have c1 := (Chg.refl (fun _ => False) w).alloc (.cells #[.slice pA m.pool.length pc, .slice cA m.code.length cc] 25)
  have HA := hide (fun W (hW : Chg (fun _ => False) w W) => awake_any W (lay.chg hW (fun _ _ => id)))
  have HF := hide (fun W (hW : Chg (fun _ => False) w W) => few_any m pc cc pA cA T W (hp.chg hW (fun _ _ _ => id)) hpn hcn px)
  have HB := hide b1
  have HC1 := hide c1
  have x0 := b1.cell 0
  have x1 := b1.cell 1
  simp only [List.getElem?_toArray, List.getElem?_cons_zero, List.getElem?_cons_succ] at x0 x1
  have HD1 := hide (Chg.refl (fun _ => False) (w.alloc (.cells #[.slice pA m.pool.length pc, .slice cA m.code.length cc] 25)))
  clear b1 c1
  rw [hf] at HF
  clear hp _hc px lay hf _hm
  go_enter Tryd.func6, Tryd.ntmps6
  go_wp2_with (first
    | (go_at_call 7; (with_reducible refine (unhide HA _ (unhide HC1)).mono ?_); rintro e w2 ⟨rfl, hch⟩; have HC2 := hide ((unhide HC1).trans' hch); have HD2 := hide ((unhide HD1).trans' hch); have hk := (unhide HB).chg (unhide HD2) id; have y0 := hk.cell 0; have y1 := hk.cell 1; simp only [List.getElem?_toArray, List.getElem?_cons_zero, List.getElem?_cons_succ] at y0 y1; clear hk; clear hch)
    | (go_at_call 8; (with_reducible refine (unhide HF _ (unhide HC2)).mono ?_); rintro e w3 ⟨rfl, hch⟩; have HC3 := hide ((unhide HC2).trans' hch); have HD3 := hide ((unhide HD2).trans' hch); have hk := (unhide HB).chg (unhide HD3) id; have z0 := hk.cell 0; have z1 := hk.cell 1; simp only [List.getElem?_toArray, List.getElem?_cons_zero, List.getElem?_cons_succ] at z0 z1; clear hk; clear hch)
    | (go_at_call 7; (with_reducible refine (unhide HA _ (unhide HC3)).mono ?_); rintro e w4 ⟨rfl, hch⟩; have HC4 := hide ((unhide HC3).trans' hch); have HD4 := hide ((unhide HD3).trans' hch); have hk := (unhide HB).chg (unhide HD4) id; have u0 := hk.cell 0; have u1 := hk.cell 1; simp only [List.getElem?_toArray, List.getElem?_cons_zero, List.getElem?_cons_succ] at u0 u1; clear hk; clear hch))
  go_ret
  exact ⟨rfl, unhide HC4⟩
theorem more_long (m : Im) (pA cA : Option Addr) (pc cc : Nat) (T T2 : Nat → Prop) (w : World) (hp : Rd T w pA (m.pool.flatMap cstv)) (_hc : Rd T2 w cA (m.code.flatMap insv)) (hpn : m.pool.length ≤ 9223372036854775807) (hcn : m.code.length ≤ 9223372036854775807) (px : ∀ x ∈ m.pool, x.text.size ≤ 9223372036854775807) (lay : Lay w) (l : List Ins) (M : Option Addr) (mc : Nat) (_hm : Rd T w M (l.flatMap insv)) (hml : l.length ≤ 9223372036854775807) (hf : fewB m = true) (h60 : 60 < l.length) : Calls Tryd.prog 6 #[.agg #[.slice pA m.pool.length pc, .slice cA m.code.length cc], .slice M l.length mc] w fun e w' => e = .returned (.bool true) ∧ Chg (fun _ => False) w w' := by
  have b1 := Blk.new w 25 #[.slice pA m.pool.length pc, .slice cA m.code.length cc]
  have c1 := (Chg.refl (fun _ => False) w).alloc (.cells #[.slice pA m.pool.length pc, .slice cA m.code.length cc] 25)
  have HA := hide (fun W (hW : Chg (fun _ => False) w W) => awake_any W (lay.chg hW (fun _ _ => id)))
  have HF := hide (fun W (hW : Chg (fun _ => False) w W) => few_any m pc cc pA cA T W (hp.chg hW (fun _ _ _ => id)) hpn hcn px)
  have HB := hide b1
  have HC1 := hide c1
  have x0 := b1.cell 0
  have x1 := b1.cell 1
  simp only [List.getElem?_toArray, List.getElem?_cons_zero, List.getElem?_cons_succ] at x0 x1
  have HD1 := hide (Chg.refl (fun _ => False) (w.alloc (.cells #[.slice pA m.pool.length pc, .slice cA m.code.length cc] 25)))
  clear b1 c1
  rw [hf] at HF
  have hd : decide ((60 : Int) < (l.length : Int)) = true := decide_eq_true (by omega)
  clear hp _hc px lay hf _hm
  go_enter Tryd.func6, Tryd.ntmps6
  go_wp2_with (first
    | (go_at_call 7; (with_reducible refine (unhide HA _ (unhide HC1)).mono ?_); rintro e w2 ⟨rfl, hch⟩; have HC2 := hide ((unhide HC1).trans' hch); have HD2 := hide ((unhide HD1).trans' hch); have hk := (unhide HB).chg (unhide HD2) id; have y0 := hk.cell 0; have y1 := hk.cell 1; simp only [List.getElem?_toArray, List.getElem?_cons_zero, List.getElem?_cons_succ] at y0 y1; clear hk; clear hch)
    | (go_at_call 8; (with_reducible refine (unhide HF _ (unhide HC2)).mono ?_); rintro e w3 ⟨rfl, hch⟩; have HC3 := hide ((unhide HC2).trans' hch); have HD3 := hide ((unhide HD2).trans' hch); have hk := (unhide HB).chg (unhide HD3) id; have z0 := hk.cell 0; have z1 := hk.cell 1; simp only [List.getElem?_toArray, List.getElem?_cons_zero, List.getElem?_cons_succ] at z0 z1; clear hk; clear hch)
    | (go_at_call 7; (with_reducible refine (unhide HA _ (unhide HC3)).mono ?_); rintro e w4 ⟨rfl, hch⟩; have HC4 := hide ((unhide HC3).trans' hch); have HD4 := hide ((unhide HD3).trans' hch); have hk := (unhide HB).chg (unhide HD4) id; have u0 := hk.cell 0; have u1 := hk.cell 1; simp only [List.getElem?_toArray, List.getElem?_cons_zero, List.getElem?_cons_succ] at u0 u1; clear hk; clear hch))
  go_ret
  exact ⟨rfl, unhide HC4⟩
theorem more_not (m : Im) (pA cA : Option Addr) (pc cc : Nat) (T T2 : Nat → Prop) (w : World) (hp : Rd T w pA (m.pool.flatMap cstv)) (hc : Rd T2 w cA (m.code.flatMap insv)) (hpn : m.pool.length ≤ 9223372036854775807) (hcn : m.code.length ≤ 9223372036854775807) (px : ∀ x ∈ m.pool, x.text.size ≤ 9223372036854775807) (lay : Lay w) (l : List Ins) (M : Option Addr) (mc : Nat) (_hm : Rd T w M (l.flatMap insv)) (hml : l.length ≤ 9223372036854775807) (hf : fewB m = true) (h60 : l.length ≤ 60) (hv : (verE m != 0) = true) : Calls Tryd.prog 6 #[.agg #[.slice pA m.pool.length pc, .slice cA m.code.length cc], .slice M l.length mc] w fun e w' => e = .returned (.bool true) ∧ Chg (fun _ => False) w w' := by
  have b1 := Blk.new w 25 #[.slice pA m.pool.length pc, .slice cA m.code.length cc]
  have c1 := (Chg.refl (fun _ => False) w).alloc (.cells #[.slice pA m.pool.length pc, .slice cA m.code.length cc] 25)
  have HA := hide (fun W (hW : Chg (fun _ => False) w W) => awake_any W (lay.chg hW (fun _ _ => id)))
  have HF := hide (fun W (hW : Chg (fun _ => False) w W) => few_any m pc cc pA cA T W (hp.chg hW (fun _ _ _ => id)) hpn hcn px)
  have HB := hide b1
  have HC1 := hide c1
  have x0 := b1.cell 0
  have x1 := b1.cell 1
  simp only [List.getElem?_toArray, List.getElem?_cons_zero, List.getElem?_cons_succ] at x0 x1
  have HD1 := hide (Chg.refl (fun _ => False) (w.alloc (.cells #[.slice pA m.pool.length pc, .slice cA m.code.length cc] 25)))
  clear b1 c1
  have hl := few_lens hf
  have HCP := hide (fun W (hW : Chg (fun _ => False) w W) => copy_any m pA cA pc cc T T2 W (hp.chg hW (fun _ _ _ => id)) (hc.chg hW (fun _ _ _ => id)) (by omega) (by omega) px (lay.chg hW (fun _ _ => id)))
  rw [hf] at HF
  have hd : decide ((60 : Int) < (l.length : Int)) = false := decide_eq_false (by omega)
  clear hp hc px lay hf _hm
  go_enter Tryd.func6, Tryd.ntmps6
  go_wp2_with (first
    | (go_at_call 7; (with_reducible refine (unhide HA _ (unhide HC1)).mono ?_); rintro e w2 ⟨rfl, hch⟩; have HC2 := hide ((unhide HC1).trans' hch); have HD2 := hide ((unhide HD1).trans' hch); have hk := (unhide HB).chg (unhide HD2) id; have y0 := hk.cell 0; have y1 := hk.cell 1; simp only [List.getElem?_toArray, List.getElem?_cons_zero, List.getElem?_cons_succ] at y0 y1; clear hk; clear hch)
    | (go_at_call 8; (with_reducible refine (unhide HF _ (unhide HC2)).mono ?_); rintro e w3 ⟨rfl, hch⟩; have HC3 := hide ((unhide HC2).trans' hch); have HD3 := hide ((unhide HD2).trans' hch); have hk := (unhide HB).chg (unhide HD3) id; have z0 := hk.cell 0; have z1 := hk.cell 1; simp only [List.getElem?_toArray, List.getElem?_cons_zero, List.getElem?_cons_succ] at z0 z1; clear hk; clear hch)
    | (go_at_call 11; (with_reducible refine (unhide HCP _ (unhide HC3)).mono ?_); rintro e w5 ⟨A', c', B', d', rfl, hcp, _, _, hch⟩; have HC5 := hide ((unhide HC3).trans' hch); have HD5 := hide ((unhide HD3).trans' hch); have hk := (unhide HB).chg (unhide HD5) id; have v0 := hk.cell 0; have v1 := hk.cell 1; simp only [List.getElem?_toArray, List.getElem?_cons_zero, List.getElem?_cons_succ] at v0 v1; clear hk; have HV := hide hcp.ver; clear hch hcp)
    | (go_at_call 13; (with_reducible refine (unhide HV).mono ?_); rintro e w6 ⟨rfl, hch⟩; have HC6 := hide ((unhide HC5).trans' hch); have HD6 := hide ((unhide HD5).trans' hch); have hk := (unhide HB).chg (unhide HD6) id; have s0 := hk.cell 0; have s1 := hk.cell 1; simp only [List.getElem?_toArray, List.getElem?_cons_zero, List.getElem?_cons_succ] at s0 s1; clear hk; clear hch)
    | (go_at_call 7; (with_reducible refine (unhide HA _ (unhide HC6)).mono ?_); rintro e w4 ⟨rfl, hch⟩; have HC4 := hide ((unhide HC6).trans' hch); have HD4 := hide ((unhide HD6).trans' hch); have hk := (unhide HB).chg (unhide HD4) id; have u0 := hk.cell 0; have u1 := hk.cell 1; simp only [List.getElem?_toArray, List.getElem?_cons_zero, List.getElem?_cons_succ] at u0 u1; clear hk; clear hch))
  go_ret
  exact ⟨rfl, unhide HC4⟩
theorem more_in (m : Im) (pA cA : Option Addr) (pc cc : Nat) (T T2 : Nat → Prop) (w : World) (hp : Rd T w pA (m.pool.flatMap cstv)) (hc : Rd T2 w cA (m.code.flatMap insv)) (hpn : m.pool.length ≤ 9223372036854775807) (hcn : m.code.length ≤ 9223372036854775807) (px : ∀ x ∈ m.pool, x.text.size ≤ 9223372036854775807) (lay : Lay w) (l : List Ins) (M : Option Addr) (mc : Nat) (hm : Rd T w M (l.flatMap insv)) (hml : l.length ≤ 9223372036854775807) (hf : fewB m = true) (h60 : l.length ≤ 60) (hv : verE m = 0) : Calls Tryd.prog 6 #[.agg #[.slice pA m.pool.length pc, .slice cA m.code.length cc], .slice M l.length mc] w fun e w' => e = .returned (.bool true) ∧ Chg (fun _ => False) w w' := by
  have tok1 : True := trivial
  have b1 := Blk.new w 25 #[.slice pA m.pool.length pc, .slice cA m.code.length cc]
  have c1 := (Chg.refl (fun _ => False) w).alloc (.cells #[.slice pA m.pool.length pc, .slice cA m.code.length cc] 25)
  have HA := hide (fun W (hW : Chg (fun _ => False) w W) => awake_any W (lay.chg hW (fun _ _ => id)))
  have HF := hide (fun W (hW : Chg (fun _ => False) w W) => few_any m pc cc pA cA T W (hp.chg hW (fun _ _ _ => id)) hpn hcn px)
  have HB := hide b1
  have HC1 := hide c1
  have x0 := b1.cell 0
  have x1 := b1.cell 1
  simp only [List.getElem?_toArray, List.getElem?_cons_zero, List.getElem?_cons_succ] at x0 x1
  have HD1 := hide (Chg.refl (fun _ => False) (w.alloc (.cells #[.slice pA m.pool.length pc, .slice cA m.code.length cc] 25)))
  clear b1 c1
  have hl := few_lens hf
  have HCP := hide (fun W (hW : Chg (fun _ => False) w W) => copy_any m pA cA pc cc T T2 W (hp.chg hW (fun _ _ _ => id)) (hc.chg hW (fun _ _ _ => id)) (by omega) (by omega) px (lay.chg hW (fun _ _ => id)))
  have HCO := hide (fun W (hW : Chg (fun _ => False) w W) => copied_own m pc cc pA cA (fun _ => True) W ((hp.chg hW (fun _ _ _ => id)).mono (fun _ _ => trivial)) ((hc.chg hW (fun _ _ _ => id)).mono (fun _ _ => trivial)) (by omega) (by omega))
  rw [hf] at HF
  have hd : decide ((60 : Int) < (l.length : Int)) = false := decide_eq_false (by omega)
  have HG := hide (ver_ok hv)
  have HVE := hide hv
  have HM := hide hm
  have HPX := hide px
  have HPL := hide (hp.mono (fun _ _ => trivial) : Rd (fun _ => True) w pA _)
  have HCDE := hide (hc.mono (fun _ _ => trivial) : Rd (fun _ => True) w cA _)
  have HLAY := hide lay
  obtain ⟨i42, hi42, hz42, hs42, hb42⟩ := info_parts info42
  have mq1 : m.code.length + l.length ≤ maxLen := by simp only [maxLen]; omega
  have mq2 : (m.code.length + l.length) * 24 ≤ 140737488355328 := by omega
  have hmlt := hm.old
  have HMO := hide hmlt
  clear hp hc px lay hf hm hv hmlt
  go_enter Tryd.func6, Tryd.ntmps6
  go_upto_region 4 with (first
    | (go_at_call 7; (with_reducible refine (unhide HA _ (unhide HC1)).mono ?_); rintro e w2 ⟨rfl, hch⟩; have HC2 := hide ((unhide HC1).trans' hch); have HD2 := hide ((unhide HD1).trans' hch); have hk := (unhide HB).chg (unhide HD2) id; have y0 := hk.cell 0; have y1 := hk.cell 1; simp only [List.getElem?_toArray, List.getElem?_cons_zero, List.getElem?_cons_succ] at y0 y1; clear hk; clear hch)
    | (go_at_call 8; (with_reducible refine (unhide HF _ (unhide HC2)).mono ?_); rintro e w3 ⟨rfl, hch⟩; have HC3 := hide ((unhide HC2).trans' hch); have HD3 := hide ((unhide HD2).trans' hch); have hk := (unhide HB).chg (unhide HD3) id; have z0 := hk.cell 0; have z1 := hk.cell 1; simp only [List.getElem?_toArray, List.getElem?_cons_zero, List.getElem?_cons_succ] at z0 z1; clear hk; clear hch)
    | (go_at_call 11; have _t := tok1; (with_reducible refine (unhide HCP _ (unhide HC3)).mono ?_); rintro e w5 ⟨A', c', B', d', rfl, hcp, _, _, hch⟩; have HC5 := hide ((unhide HC3).trans' hch); have HD5 := hide ((unhide HD3).trans' hch); have hk := (unhide HB).chg (unhide HD5) id; have v0 := hk.cell 0; have v1 := hk.cell 1; simp only [List.getElem?_toArray, List.getElem?_cons_zero, List.getElem?_cons_succ] at v0 v1; clear hk; have HV := hide hcp.ver; clear hch hcp tok1 _t)
    | (go_at_call 13; (with_reducible refine (unhide HV).mono ?_); rintro e w6 ⟨rfl, hch⟩; have HC6 := hide ((unhide HC5).trans' hch); have HD6 := hide ((unhide HD5).trans' hch); have hk := (unhide HB).chg (unhide HD6) id; have s0 := hk.cell 0; have s1 := hk.cell 1; simp only [List.getElem?_toArray, List.getElem?_cons_zero, List.getElem?_cons_succ] at s0 s1; clear hk; rw [unhide HVE]; clear hch)
    | (go_at_call 11; (with_reducible refine (unhide HCO _ (unhide HC6)).mono ?_); rintro e w7 ⟨A2, c2, B2, d2, rfl, hr1, hr2, ho2, ho1, hch⟩; have HC7 := hide ((unhide HC6).trans' hch); have HD7 := hide ((unhide HD6).trans' hch); have hk := (unhide HB).chg (unhide HD7) id; have r0 := hk.cell 0; have r1 := hk.cell 1; simp only [List.getElem?_toArray, List.getElem?_cons_zero, List.getElem?_cons_succ] at r0 r1; clear hk; have HR1 := hide hr1; have HO2 := hide ho2; have HO1 := hide ho1; have HH7 := hide hch; clear hch hr1 hr2 ho2 ho1))
  rename_i K hK
  have HK := hide hK
  clear hK
  have hc8 := (unhide HC7).alloc (.cells #[.slice A2 m.pool.length c2, .slice B2 m.code.length d2] 25)
  have hd8 := (unhide HD7).alloc (.cells #[.slice A2 m.pool.length c2, .slice B2 m.code.length d2] 25)
  have bn := Blk.new w7 25 #[.slice A2 m.pool.length c2, .slice B2 m.code.length d2]
  have hz8 : w7.heap.size < (w7.alloc (.cells #[.slice A2 m.pool.length c2, .slice B2 m.code.length d2] 25)).heap.size := by rw [size_alloc]; omega
  have o42 := (own_base (unhide HO2) (Nat.le_add_right w6.heap.size 2)).alloc (.cells #[.slice A2 m.pool.length c2, .slice B2 m.code.length d2] 25)
  have o46 := (unhide HO1).alloc (.cells #[.slice A2 m.pool.length c2, .slice B2 m.code.length d2] 25)
  have ml8 := (unhide HM).chg hc8 (fun _ _ _ => id)
  have hnl : ∀ k, (Value.slice B2 m.code.length d2).ownBlock = some k → w6.heap.size + 2 ≤ k ∧ k < w7.heap.size := fun k hk => (unhide HO2).lt k hk
  have hz6 := (unhide HC6).size
  have hz1 := (unhide HD7).size
  rw [size_alloc] at hz1
  have hz7 := (unhide HH7).size
  have n0 := bn.cell 0
  have n1 := bn.cell 1
  simp only [List.getElem?_toArray, List.getElem?_cons_zero, List.getElem?_cons_succ] at n0 n1
  generalize w7.alloc (.cells #[.slice A2 m.pool.length c2, .slice B2 m.code.length d2] 25) = W8 at *
  have hb8 : w6.heap.size ≤ W8.heap.size := by omega
  have HC8 := hide hc8
  have HD8 := hide hd8
  have BN := hide bn
  have O42 := hide o42
  have O46 := hide o46
  have ML8 := hide ml8
  have HNL := hide hnl
  clear hc8 hd8 bn o42 o46 ml8 hnl
  go_wp2_with (at_builtin
               refine wpList_append_rd _ rfl (.tmp 31) (.tmp 32) 23 rfl w6.heap.size 42 i42 _ 3 24 Tryd.underlying23 hi42 hz42 hs42 hb42 rfl (Nat.succ_pos 2) _ m.code.length _ rfl (unhide O42) _ M l.length mc (l.flatMap insv) rfl (ins_len l) (unhide ML8) (ins_one l) mq1 mq2 hb8 ?_
               intro v9 w9 ho9 hc9 hat9
               have HO9 := hide ho9
               have HC9 := hide hc9
               obtain ⟨A9, c9, rfl⟩ := own_val ho9
               have bn9 := (unhide BN).chg hc9 (fun e => by have := (unhide HNL _ e).2; omega)
               have m0 := bn9.cell 0
               have m1 := bn9.cell 1
               have fm := bn9.frozen 1
               have nl9 := bn9.lt
               simp only [List.getElem?_toArray, List.getElem?_cons_zero, List.getElem?_cons_succ] at m0 m1
               have BN9 := hide bn9
               clear ho9 hc9 hat9 bn9)
  refine unhide HK _ _ ?_
  have hc9 : Chg (fun _ => False) w w9 := (unhide HC8).trans (unhide HC9) (fun k hk e => by have := (unhide HNL _ e).1; omega)
  have hcF : Chg (fun _ => False) w (w9.setCell ⟨w7.heap.size, 1, none⟩ (.slice A9 (m.code.length + l.length) c9)) := hc9.setCell (fun hlt => by have h2 : w7.heap.size < w.heap.size := hlt; omega) _
  have hS : Chg (fun k => k = w7.heap.size) w9 (w9.setCell ⟨w7.heap.size, 1, none⟩ (.slice A9 (m.code.length + l.length) c9)) := (Chg.refl (fun k => k = w7.heap.size) w9).setCell (p := ⟨w7.heap.size, 1, none⟩) (fun _ => rfl) _
  have o46 := own_chg (unhide O46) (unhide HC9) (fun k hk e => own_two_ne (unhide O46) (unhide O42) (by decide) hk e)
  have hbx : Blk w9 w.heap.size 25 #[.slice pA m.pool.length pc, .slice cA m.code.length cc] := ((unhide HB).chg (unhide HD8) id).chg (unhide HC9) (fun e => by have := (unhide HNL _ e).1; omega)
  have hst : MoreSt m l pA cA pc cc w.heap.size w7.heap.size A2 A9 c2 c9 w (w9.setCell ⟨w7.heap.size, 1, none⟩ (.slice A9 (m.code.length + l.length) c9)) := by
    refine ⟨hcF, hbx.chg hS (fun e => by have e2 : w.heap.size = w7.heap.size := e; omega), (unhide BN9).set_ 1 _, (unhide HPL).chg hcF (fun _ _ _ => id), (unhide HCDE).chg hcF (fun _ _ _ => id), ?_, ?_, (unhide HLAY).chg hcF (fun _ _ => id), unhide HPX, ⟨hl.1, hl.2, h60⟩⟩
    · exact ((own_rd o46 (by omega)).chg hS (fun k hk _ e => own_blk_ne o46 (unhide BN9) (by decide) (by rw [hk, show k = w7.heap.size from e]))).mono (fun _ _ => trivial)
    · have ho := unhide HO9
      rw [← List.flatMap_append] at ho
      exact ((own_rd ho (by omega)).chg hS (fun k hk _ e => own_blk_ne ho (unhide BN9) (by decide) (by rw [hk, show k = w7.heap.size from e]))).mono (fun _ _ => trivial)
  by_cases hi : imgE (moreIm m l) = 0
  · exact more_yes _ _ _ _ _ _ _ _ _ _ _ _ _ _ _ _ _ _ _ _ _ _ _ _ _ _ _ _ _ _ _ _ _ _ _ _ _ _ _ _ _ _ _ _ _ _ _ _ _ _ _ _ _ _ _ _ _ _ _ _ _ _ _ _ _ _ _ _ _ _ _ _ _ _ _ _ _ _ _ _ _ _ _ _ _ _ _ _ _ _ _ _ m l pA cA pc cc _ _ A2 A9 c2 c9 w _ hst (unhide HVE) hi
  · exact more_bad _ _ _ _ _ _ _ _ _ _ _ _ _ _ _ _ _ _ _ _ _ _ _ _ _ _ _ _ _ _ _ _ _ _ _ _ _ _ _ _ _ _ _ _ _ _ _ _ _ _ _ _ _ _ _ _ _ _ _ _ _ _ _ _ _ _ _ _ _ _ _ _ _ _ _ _ _ _ _ _ _ _ _ _ _ _ _ _ _ _ _ _ m l pA cA pc cc _ _ A2 A9 c2 c9 w _ hst (bne_iff_ne.2 hi)
theorem more_any (m : Im) (pA cA : Option Addr) (pc cc : Nat) (T T2 : Nat → Prop) (w : World) (hp : Rd T w pA (m.pool.flatMap cstv)) (hc : Rd T2 w cA (m.code.flatMap insv)) (hpn : m.pool.length ≤ 9223372036854775807) (hcn : m.code.length ≤ 9223372036854775807) (px : ∀ x ∈ m.pool, x.text.size ≤ 9223372036854775807) (lay : Lay w) (l : List Ins) (M : Option Addr) (mc : Nat) (hm : Rd T w M (l.flatMap insv)) (hml : l.length ≤ 9223372036854775807) : Calls Tryd.prog 6 #[.agg #[.slice pA m.pool.length pc, .slice cA m.code.length cc], .slice M l.length mc] w fun e w' => e = .returned (.bool true) ∧ Chg (fun _ => False) w w' := by
  cases hf : fewB m with
  | false => exact more_few m pA cA pc cc T T2 w hp hc hpn hcn px lay l M mc hm hml hf
  | true =>
    by_cases h60 : l.length ≤ 60
    · by_cases hv : verE m = 0
      · exact more_in m pA cA pc cc T T2 w hp hc hpn hcn px lay l M mc hm hml hf h60 hv
      · exact more_not m pA cA pc cc T T2 w hp hc hpn hcn px lay l M mc hm hml hf h60 (bne_iff_ne.2 hv)
    · exact more_long m pA cA pc cc T T2 w hp hc hpn hcn px lay l M mc hm hml hf (by omega)
end Go.Proofs.YtejkaalhjocmgaaDoor
