/-
  Layer 19: whether an image isn't too great; an image of its own memory.
-/
import Derived.Test.YtejkaalhjocmgaaDoorWf
import Derived.Deep.RegionHeld3
namespace Go.Proofs.YtejkaalhjocmgaaDoor
open Go.RowKit
set_option maxHeartbeats 1000000
set_option maxRecDepth 100000
def fewB (m : Im) : Bool := (m.pool.take 61).all (fun c => decide (c.text.size ≤ 300)) && (decide (m.pool.length ≤ 60) && decide (m.code.length ≤ 120))
theorem all_take_succ {α : Type} (p : α → Bool) (l : List α) (k : Nat) (h : k < l.length) : (l.take (k + 1)).all p = ((l.take k).all p && p l[k]) := by
  rw [List.take_succ_eq_append_getElem h, List.all_append]
  simp
theorem all_take_not {α : Type} (p : α → Bool) (l : List α) (k n : Nat) (h : k < l.length) (hk : k < n) (hp : p l[k] = false) : (l.take n).all p = false := by
  rw [List.all_eq_false]
  exact ⟨l[k], List.mem_iff_getElem.2 ⟨k, by rw [List.length_take]; omega, by simp⟩, by simp [hp]⟩
theorem few_any (m : Im) (c d : Nat) (A B : Option Addr) (T : Nat → Prop) (w : World) (hp : Rd T w A (m.pool.flatMap cstv)) (hpn : m.pool.length ≤ 9223372036854775807) (hcn : m.code.length ≤ 9223372036854775807) (hx : ∀ x ∈ m.pool, x.text.size ≤ 9223372036854775807) :
    Calls Tryd.prog 8 #[.agg #[.slice A m.pool.length c, .slice B m.code.length d]] w fun e w' => e = .returned (.bool (fewB m)) ∧ Chg (fun _ => False) w w' := by
  obtain ⟨p, q⟩ := m
  dsimp only at hp hpn hcn hx ⊢
  have hE : fewB ⟨p, q⟩ = ((p.take 61).all (fun c => decide (c.text.size ≤ 300)) && (decide (p.length ≤ 60) && decide (q.length ≤ 120))) := rfl
  generalize fewB ⟨p, q⟩ = E at *
  have h0 := (Chg.refl (fun _ => False) w).alloc (.cells #[.slice A p.length c, .slice B q.length d] 25)
  have hb := Blk.new w 25 #[.slice A p.length c, .slice B q.length d]
  have x0 := hb.cell 0
  have x1 := hb.cell 1
  simp only [List.getElem?_toArray, List.getElem?_cons_zero, List.getElem?_cons_succ] at x0 x1
  have HP := hide (hp.chg h0 (fun _ _ _ => id))
  have HX := hide hx
  have HE := hide hE
  have H0 := hide h0
  clear hp hx hE h0 hb
  go_enter Tryd.func8, Tryd.ntmps8
  go_wp2_with fail
  go_loop [3] (fun i => ∃ k : Nat, i = .int .i64 k ∧ k ≤ p.length ∧ k ≤ 61 ∧ (p.take k).all (fun c => decide (c.text.size ≤ 300)) = true) (fun i => p.length - (intOf i).toNat)
  case atStart => exact ⟨0, rfl, Nat.zero_le _, Nat.zero_le _, rfl⟩
  case round =>
    obtain ⟨k, rfl, hk, hk61, hall⟩ := hrel
    have HALL := hide hall
    clear hall
    by_cases hlt : k < p.length
    · by_cases h61 : k < 61
      · obtain ⟨b, o, rfl, _, hat⟩ := pool_at (unhide HP) (by rintro rfl; simp at hlt)
        obtain ⟨q0, q1, q2⟩ := hat k _ (List.getElem?_eq_getElem hlt)
        have hsz := (unhide HX) _ (List.getElem_mem hlt)
        have HTS := hide (all_take_succ (fun c : Cst => decide (c.text.size ≤ 300)) p k hlt)
        have HTN := hide (all_take_not (fun c : Cst => decide (c.text.size ≤ 300)) p k 61 hlt h61)
        generalize p[k] = x at *
        clear hat
        by_cases hg : 300 < x.text.size
        · have hd : decide ((300 : Int) < (x.text.size : Int)) = true := decide_eq_true (by omega)
          go_wp2_with fail
          go_ret
          exact ⟨retv (boolv (by rw [unhide HE, unhide HTN (by simpa using hg)]; rfl)), unhide H0⟩
        · have hd : decide ((300 : Int) < (x.text.size : Int)) = false := decide_eq_false (by omega)
          go_wp2_with fail
          go_round
          case rel => exact ⟨k + 1, by go_num, by omega, by omega, by rw [unhide HTS, unhide HALL]; simpa using hg⟩
          case measure => simp [intOf]; omega
      · obtain rfl : k = 61 := by omega
        by_cases h1 : p.length ≤ 60
        · omega
        have hd : decide ((p.length : Int) ≤ 60) = false := decide_eq_false (by omega)
        go_wp2_with fail
        go_ret
        exact ⟨retv (boolv (by rw [unhide HE, decide_eq_false h1]; simp)), unhide H0⟩
    · obtain rfl : k = p.length := by omega
      have HF := hide (show (p.take 61).all (fun c => decide (c.text.size ≤ 300)) = true by rw [List.take_of_length_le hk61, ← List.take_length (l := p)]; exact unhide HALL)
      by_cases h1 : p.length ≤ 60
      · have hd : decide ((p.length : Int) ≤ 60) = true := decide_eq_true (by omega)
        go_wp2_with fail
        go_ret
        exact ⟨retv (boolv (by rw [unhide HE, unhide HF, decide_eq_true h1, Bool.true_and, Bool.true_and, Bool.eq_iff_iff]; simp; omega)), unhide H0⟩
      · have hd : decide ((p.length : Int) ≤ 60) = false := decide_eq_false (by omega)
        go_wp2_with fail
        go_ret
        exact ⟨retv (boolv (by rw [unhide HE, decide_eq_false h1]; simp)), unhide H0⟩
theorem info46 : (Tryd.prog.info? 46).map (fun i => (i.zero, i.size, i.bytes)) = some (some (.agg #[.bool false, .int .i64 0, .string ⟨#[]⟩]), 3, 32) := by kernel_rfl
theorem info42 : (Tryd.prog.info? 42).map (fun i => (i.zero, i.size, i.bytes)) = some (some (.agg #[.int .i64 0, .int .i64 0, .int .i64 0]), 3, 24) := by kernel_rfl
theorem own_empty {w : World} {base g e : Nat} (h : Blk w g e #[]) (hb : base ≤ g) : w.ownsRow base e 3 (.slice (some ⟨g, 0, none⟩) 0 0) 0 [] :=
  ⟨rfl, .inr ⟨g, 0, #[], rfl, hb, h, Nat.le_refl _, by simp only [maxLen]; omega, rfl, rfl⟩⟩
theorem cst_one (l : List Cst) : ∀ u ∈ l.flatMap cstv, u.oneCell' = true := by
  intro u hu
  obtain ⟨x, _, hx⟩ := List.mem_flatMap.1 hu
  simp only [cstv, List.mem_cons, List.not_mem_nil, or_false] at hx
  rcases hx with rfl | rfl | rfl <;> rfl
theorem ins_one (l : List Ins) : ∀ u ∈ l.flatMap insv, u.oneCell' = true := by
  intro u hu
  obtain ⟨x, _, hx⟩ := List.mem_flatMap.1 hu
  simp only [insv, List.mem_cons, List.not_mem_nil, or_false] at hx
  rcases hx with rfl | rfl | rfl <;> rfl
theorem cst_len (l : List Cst) : (l.flatMap cstv).length = l.length * 3 := by
  induction l with
  | nil => rfl
  | cons x l ih => rw [List.flatMap_cons, List.length_append, ih, List.length_cons]; simp [cstv]; omega
theorem ins_len (l : List Ins) : (l.flatMap insv).length = l.length * 3 := by
  induction l with
  | nil => rfl
  | cons x l ih => rw [List.flatMap_cons, List.length_append, ih, List.length_cons]; simp [insv]; omega
theorem Rd.old {T : Nat → Prop} {w : World} {A : Option Addr} {xs : List Value} (h : Rd T w A xs) : Rd (fun k => k < w.heap.size) w A xs := by
  intro hn
  obtain ⟨ad, e, ht, hc⟩ := h hn
  obtain ⟨x, l, rfl⟩ := List.exists_cons_of_ne_nil hn
  have := World.block_lt_of_cell? w _ (hc 0 x rfl)
  rw [block_of_add] at this
  exact ⟨ad, e, this, hc⟩
/-- What stays while an image is copied. -/
structure CopK (z : Nat) (A B : Option Addr) (p : List Cst) (q : List Ins) (c d : Nat) (W : World) : Prop where
  bx : Blk W z 25 #[.slice A p.length c, .slice B q.length d]
  rs : Blk W (z + 1) 25 #[.slice none 0 0, .slice none 0 0]
  pl : Rd (fun k => k < z) W A (p.flatMap cstv)
  cd : Rd (fun k => k < z) W B (q.flatMap insv)
theorem CopK.chg {S : Nat → Prop} {z : Nat} {A B : Option Addr} {p : List Cst} {q : List Ins} {c d : Nat} {W W' : World} (h : CopK z A B p q c d W) (hc : Chg S W W') (hS : ∀ k, S k → z + 2 ≤ k) : CopK z A B p q c d W' :=
  ⟨h.bx.chg hc (fun e => by have := hS _ e; omega), h.rs.chg hc (fun e => by have := hS _ e; omega), h.pl.chg hc (fun k hk _ e => by have := hS _ e; omega), h.cd.chg hc (fun k hk _ e => by have := hS _ e; omega)⟩
theorem own_only {g g' : Nat} {n c : Nat} (h : (Value.slice (some ⟨g, 0, none⟩) n c).ownBlock = some g') : g = g' := by
  simpa [Value.ownBlock] using h
theorem copied_end {w W1 wl : World} (h1 : Chg (fun _ => False) w W1) (hz : W1.heap.size = w.heap.size + 2) (hq : Chg (fun k => W1.heap.size ≤ k) W1 wl) {A1 A2 : Option Addr} {n1 c1 n2 c2 e1 e2 : Nat} {xs ys : List Value} (ho1 : wl.ownsRow (w.heap.size + 2) e1 3 (.slice A1 n1 c1) n1 xs) (ho2 : wl.ownsRow (w.heap.size + 2) e2 3 (.slice A2 n2 c2) n2 ys) (u1 u2 : Value) :
    Rd (fun k => w.heap.size ≤ k) ((wl.setCell ⟨w.heap.size + 1, 0, none⟩ u1).setCell ⟨w.heap.size + 1, 1, none⟩ u2) A1 xs ∧ Rd (fun k => w.heap.size ≤ k) ((wl.setCell ⟨w.heap.size + 1, 0, none⟩ u1).setCell ⟨w.heap.size + 1, 1, none⟩ u2) A2 ys ∧ Chg (fun _ => False) w ((wl.setCell ⟨w.heap.size + 1, 0, none⟩ u1).setCell ⟨w.heap.size + 1, 1, none⟩ u2) := by
  have hs : Chg (fun k => k = w.heap.size + 1) wl ((wl.setCell ⟨w.heap.size + 1, 0, none⟩ u1).setCell ⟨w.heap.size + 1, 1, none⟩ u2) := ((Chg.refl (fun k => k = w.heap.size + 1) wl).setCell (fun _ => rfl) _).setCell (fun _ => rfl) _
  refine ⟨((own_rd ho1 (by omega)).chg hs (fun k hk _ e => ?_)).mono (fun k hk => ?_), ((own_rd ho2 (by omega)).chg hs (fun k hk _ e => ?_)).mono (fun k hk => ?_), (h1.trans (S' := fun k => W1.heap.size ≤ k) hq (fun k hk e => by omega)).trans hs (fun k hk e => by omega)⟩
  · have := (ho1.lt k hk).1; omega
  · have := (ho1.lt k hk).1; omega
  · have := (ho2.lt k hk).1; omega
  · have := (ho2.lt k hk).1; omega
theorem own_apart {w W : World} {base e size n : Nat} {v : Value} {xs : List Value} {g g' k : Nat} (h : w.ownsRow base e size v n xs) (ha : v.ownBlock = (Value.slice (some ⟨g, 0, none⟩) 0 0).ownBlock ∨ v.ownBlock = some W.heap.size) (hk : v.ownBlock = some k) (hk2 : (Value.slice (some ⟨g', 0, none⟩) 0 0).ownBlock = some k) (hn : (g ≠ g' ∧ W.heap.size ≠ g') ∨ w.heap.size ≤ g') : False := by
  have e2 := own_only hk2
  subst e2
  rcases hn with ⟨h1, h2⟩ | h1
  · rcases ha with e | e
    · exact h1 (own_only (e.symm.trans hk))
    · rw [e] at hk; injection hk with hk; exact h2 hk
  · have := (h.lt _ hk).2; omega
theorem copied_any (m : Im) (c d : Nat) (A B : Option Addr) (T : Nat → Prop) (w : World) (hp : Rd T w A (m.pool.flatMap cstv)) (hc : Rd T w B (m.code.flatMap insv)) (hpn : m.pool.length ≤ 1000000) (hcn : m.code.length ≤ 1000000) :
    Calls Tryd.prog 11 #[.agg #[.slice A m.pool.length c, .slice B m.code.length d]] w fun e w' => ∃ A' c' B' d', e = .returned (.agg #[.slice A' m.pool.length c', .slice B' m.code.length d']) ∧ Rd (fun k => w.heap.size ≤ k) w' A' (m.pool.flatMap cstv) ∧ Rd (fun k => w.heap.size ≤ k) w' B' (m.code.flatMap insv) ∧ Chg (fun _ => False) w w' := by
  obtain ⟨p, q⟩ := m
  dsimp only at hp hc hpn hcn ⊢
  obtain ⟨i46, hi46, hz46, hs46, hb46⟩ := info_parts info46
  obtain ⟨i42, hi42, hz42, hs42, hb42⟩ := info_parts info42
  have mp1 : 0 + p.length ≤ maxLen := by simp only [maxLen]; omega
  have mp2 : (0 + p.length) * 32 ≤ 140737488355328 := by omega
  have mq1 : 0 + q.length ≤ maxLen := by simp only [maxLen]; omega
  have mq2 : (0 + q.length) * 24 ≤ 140737488355328 := by omega
  have h1 : Chg (fun _ => False) w ((w.alloc (.cells #[.slice A p.length c, .slice B q.length d] 25)).alloc (.cells #[.slice none 0 0, .slice none 0 0] 25)) := ((Chg.refl _ w).alloc _).alloc _
  have K1 : CopK w.heap.size A B p q c d ((w.alloc (.cells #[.slice A p.length c, .slice B q.length d] 25)).alloc (.cells #[.slice none 0 0, .slice none 0 0] 25)) :=
    ⟨(Blk.new _ _ _).alloc _, Blk.new_at _ _ _ _ (by simp), hp.old.chg h1 (fun _ _ _ => id), hc.old.chg h1 (fun _ _ _ => id)⟩
  have x0 := K1.bx.cell 0
  have x1 := K1.bx.cell 1
  simp only [List.getElem?_toArray, List.getElem?_cons_zero, List.getElem?_cons_succ] at x0 x1
  have hz : ((w.alloc (.cells #[.slice A p.length c, .slice B q.length d] 25)).alloc (.cells #[.slice none 0 0, .slice none 0 0] 25)).heap.size = w.heap.size + 2 := by simp
  have HZ := hide hz
  have HK := hide K1
  have H1 := hide h1
  clear hp hc hz h1 K1
  go_enter Tryd.func11, Tryd.ntmps11
  go_upto_region 1 with fail
  generalize (w.alloc (.cells #[.slice A p.length c, .slice B q.length d] 25)).alloc (.cells #[.slice none 0 0, .slice none 0 0] 25) = W1 at *
  have hge : w.heap.size + 2 ≤ W1.heap.size := Nat.le_of_eq (unhide HZ).symm
  have hge1 : w.heap.size + 2 ≤ W1.heap.size + 1 := Nat.le_succ_of_le hge
  have hS : ∀ k, W1.heap.size ≤ k → w.heap.size + 2 ≤ k := fun k hk => Nat.le_trans hge hk
  refine wp_region_noPanic ?_
  go_region_held3 (fun W' => W'.cell? ⟨w.heap.size, 0, none⟩ = some (.slice A p.length c) ∧ W'.cell? ⟨w.heap.size, 1, none⟩ = some (.slice B q.length d)) (go_keep) (first
    | (refine step_append_rd _ rfl (.tmp 3) (.tmp 5) 22 rfl (w.heap.size + 2) 46 i46 _ 3 32 Tryd.underlying22 hi46 hz46 hs46 hb46 rfl (Nat.succ_pos 2) _ 0 [] rfl ?_ (fun k => k < w.heap.size) A p.length c (p.flatMap cstv) rfl (cst_len p) ?_ (cst_one p) mp1 mp2 ?_ ?_; (first | exact own_empty (Blk.new W1 46 #[]) hge | exact own_empty ((Blk.new W1 46 #[]).alloc _) hge | exact own_empty (Blk.new_at _ _ 46 #[] (by simp)) hge1 | exact own_empty (Blk.chg (Blk.drew ((Blk.new W1 46 #[]).alloc _)) (unhide HC2) (fun e => by have := own_only e; omega)) hge | exact own_empty (Blk.chg (Blk.drew (Blk.new_at (W1.alloc _) (W1.heap.size + 1) 46 #[] (by simp))) (unhide HC2) (fun e => by have := own_only e; omega)) hge1 | exact own_empty (Blk.new _ 46 #[]) (Nat.le_trans hge (unhide HQ2).size)); (first | exact ((unhide HK).chg ((Chg.refl (fun k => W1.heap.size ≤ k) W1).alloc _).drew hS).pl | exact ((unhide HK).chg (((Chg.refl (fun k => W1.heap.size ≤ k) W1).alloc _).alloc _).drew hS).pl | exact ((unhide HK).chg (unhide HQ2) hS).pl | exact ((unhide HK).chg ((unhide HQ2).alloc _) hS).pl); (first | exact Nat.le_trans hge (Chg.size ((Chg.refl (fun k => W1.heap.size ≤ k) W1).alloc _).drew) | exact Nat.le_trans hge (Chg.size (((Chg.refl (fun k => W1.heap.size ≤ k) W1).alloc _).alloc _).drew) | exact Nat.le_trans hge (Chg.size (unhide HQ2)) | exact Nat.le_trans hge (Chg.size ((unhide HQ2).alloc _))); intro v1 w1 ho1 hc1 hat1; simp only [Nat.zero_add, List.nil_append] at ho1; have HO1 := hide ho1; have HA1 := hide hat1; (first | have HQ1 := hide (show Chg (fun k => W1.heap.size ≤ k) W1 w1 from Chg.trans ((Chg.refl (fun k => W1.heap.size ≤ k) W1).alloc _).drew hc1 (fun k hk e => by have := own_only e; omega)) | have HQ1 := hide (show Chg (fun k => W1.heap.size ≤ k) W1 w1 from Chg.trans (((Chg.refl (fun k => W1.heap.size ≤ k) W1).alloc _).alloc _).drew hc1 (fun k hk e => by have := own_only e; omega)) | have HQ1 := hide (show Chg (fun k => W1.heap.size ≤ k) W1 w1 from Chg.trans (unhide HQ2) hc1 (fun k hk e => by have := own_only e; have := (unhide HQ2).size; omega)) | have HQ1 := hide (show Chg (fun k => W1.heap.size ≤ k) W1 w1 from Chg.trans ((unhide HQ2).alloc _) hc1 (fun k hk e => by have := own_only e; have := (unhide HQ2).size; omega))); have HC1 := hide hc1; have kk1 := (unhide HK).chg (unhide HQ1) hS; have y10 := kk1.bx.cell 0; have y11 := kk1.bx.cell 1; have r10 := kk1.rs.cell 0; have r11 := kk1.rs.cell 1; have f10 := kk1.rs.frozen 0; have f11 := kk1.rs.frozen 1; simp only [List.getElem?_toArray, List.getElem?_cons_zero, List.getElem?_cons_succ] at y10 y11 r10 r11; obtain ⟨A1, c1, rfl⟩ := own_val ho1; clear ho1 hc1 hat1 kk1)
    | (refine step_append_rd _ rfl (.tmp 7) (.tmp 9) 23 rfl (w.heap.size + 2) 42 i42 _ 3 24 Tryd.underlying23 hi42 hz42 hs42 hb42 rfl (Nat.succ_pos 2) _ 0 [] rfl ?_ (fun k => k < w.heap.size) B q.length d (q.flatMap insv) rfl (ins_len q) ?_ (ins_one q) mq1 mq2 ?_ ?_; (first | exact own_empty (Blk.new W1 42 #[]) hge | exact own_empty ((Blk.new W1 42 #[]).alloc _) hge | exact own_empty (Blk.new_at _ _ 42 #[] (by simp)) hge1 | exact own_empty (Blk.chg (Blk.drew ((Blk.new W1 42 #[]).alloc _)) (unhide HC1) (fun e => by have := own_only e; omega)) hge | exact own_empty (Blk.chg (Blk.drew (Blk.new_at (W1.alloc _) (W1.heap.size + 1) 42 #[] (by simp))) (unhide HC1) (fun e => by have := own_only e; omega)) hge1 | exact own_empty (Blk.new _ 42 #[]) (Nat.le_trans hge (unhide HQ1).size)); (first | exact ((unhide HK).chg ((Chg.refl (fun k => W1.heap.size ≤ k) W1).alloc _).drew hS).cd | exact ((unhide HK).chg (((Chg.refl (fun k => W1.heap.size ≤ k) W1).alloc _).alloc _).drew hS).cd | exact ((unhide HK).chg (unhide HQ1) hS).cd | exact ((unhide HK).chg ((unhide HQ1).alloc _) hS).cd); (first | exact Nat.le_trans hge (Chg.size ((Chg.refl (fun k => W1.heap.size ≤ k) W1).alloc _).drew) | exact Nat.le_trans hge (Chg.size (((Chg.refl (fun k => W1.heap.size ≤ k) W1).alloc _).alloc _).drew) | exact Nat.le_trans hge (Chg.size (unhide HQ1)) | exact Nat.le_trans hge (Chg.size ((unhide HQ1).alloc _))); intro v2 w2 ho2 hc2 hat2; simp only [Nat.zero_add, List.nil_append] at ho2; have HO2 := hide ho2; have HA2 := hide hat2; (first | have HQ2 := hide (show Chg (fun k => W1.heap.size ≤ k) W1 w2 from Chg.trans ((Chg.refl (fun k => W1.heap.size ≤ k) W1).alloc _).drew hc2 (fun k hk e => by have := own_only e; omega)) | have HQ2 := hide (show Chg (fun k => W1.heap.size ≤ k) W1 w2 from Chg.trans (((Chg.refl (fun k => W1.heap.size ≤ k) W1).alloc _).alloc _).drew hc2 (fun k hk e => by have := own_only e; omega)) | have HQ2 := hide (show Chg (fun k => W1.heap.size ≤ k) W1 w2 from Chg.trans (unhide HQ1) hc2 (fun k hk e => by have := own_only e; have := (unhide HQ1).size; omega)) | have HQ2 := hide (show Chg (fun k => W1.heap.size ≤ k) W1 w2 from Chg.trans ((unhide HQ1).alloc _) hc2 (fun k hk e => by have := own_only e; have := (unhide HQ1).size; omega))); have HC2 := hide hc2; have kk2 := (unhide HK).chg (unhide HQ2) hS; have y20 := kk2.bx.cell 0; have y21 := kk2.bx.cell 1; have r20 := kk2.rs.cell 0; have r21 := kk2.rs.cell 1; have f20 := kk2.rs.frozen 0; have f21 := kk2.rs.frozen 1; simp only [List.getElem?_toArray, List.getElem?_cons_zero, List.getElem?_cons_succ] at y20 y21 r20 r21; obtain ⟨A2, c2, rfl⟩ := own_val ho2; clear ho2 hc2 hat2 kk2))
  all_goals
    refine NoPanic.normal ?_
    try dsimp only
    go_wp2_with fail
    first
    | have hr := copied_end (unhide H1) (unhide HZ) (unhide HQ2) (own_chg ((unhide HO1)) (unhide HC2) (fun k hk e => own_apart (unhide HO1) (unhide HA1) hk e (by first | exact .inr (Nat.le_refl _) | exact .inl ⟨by omega, by simp; omega⟩ | exact .inl ⟨by omega, by simp⟩ | exact .inl ⟨by simp, by simp⟩))) (unhide HO2) (.slice A1 p.length c1) (.slice A2 q.length c2)
    | have hr := copied_end (unhide H1) (unhide HZ) (unhide HQ2) (own_chg ((unhide HO1).alloc _) (unhide HC2) (fun k hk e => own_apart (unhide HO1) (unhide HA1) hk e (by first | exact .inr (Nat.le_refl _) | exact .inl ⟨by omega, by simp; omega⟩ | exact .inl ⟨by omega, by simp⟩ | exact .inl ⟨by simp, by simp⟩))) (unhide HO2) (.slice A1 p.length c1) (.slice A2 q.length c2)
    | have hr := copied_end (unhide H1) (unhide HZ) (unhide HQ1) (unhide HO1) (own_chg ((unhide HO2)) (unhide HC1) (fun k hk e => own_apart (unhide HO2) (unhide HA2) hk e (by first | exact .inr (Nat.le_refl _) | exact .inl ⟨by omega, by simp; omega⟩ | exact .inl ⟨by omega, by simp⟩ | exact .inl ⟨by simp, by simp⟩))) (.slice A1 p.length c1) (.slice A2 q.length c2)
    | have hr := copied_end (unhide H1) (unhide HZ) (unhide HQ1) (unhide HO1) (own_chg ((unhide HO2).alloc _) (unhide HC1) (fun k hk e => own_apart (unhide HO2) (unhide HA2) hk e (by first | exact .inr (Nat.le_refl _) | exact .inl ⟨by omega, by simp; omega⟩ | exact .inl ⟨by omega, by simp⟩ | exact .inl ⟨by simp, by simp⟩))) (.slice A1 p.length c1) (.slice A2 q.length c2)
    exact bodyPost_ret (v := .agg #[.slice A1 p.length c1, .slice A2 q.length c2]) (by simp [results, Tryd.results11, go_sem, *]) rfl ⟨_, _, _, _, rfl, hr⟩
end Go.Proofs.YtejkaalhjocmgaaDoor
