/-
  Layer 19: that things stand so ahead of an instruction: the walk.
-/
import Derived.Test.YtejkaalhjocmgaaDoorWl
import Derived.Lib.QuietBelow
namespace Go.Proofs.YtejkaalhjocmgaaDoor
open Go.RowKit
set_option maxHeartbeats 1000000
set_option maxRecDepth 100000
theorem info3 : (Tryd.prog.info? 3).map (fun i => (i.zero, i.size, i.bytes)) = some (some (.int .i64 0), 1, 8) := by kernel_rfl
/-- What a call leaves of the checker. -/
def COut (w w' : World) (base c b mp n L : Nat) (pv cv v5 : Value) (C' : PC) : Prop := ∃ (v5' : Value) (f : I64 → Option Int) (cs' : Array Value), CMem w' base c b mp n L pv cv v5' f cs' C' ∧ Chg (fun k => k = c ∨ k = b ∨ k = mp ∨ v5.ownBlock = some k) w w' ∧ (v5'.ownBlock = v5.ownBlock ∨ ∃ k, v5'.ownBlock = some k ∧ w.heap.size ≤ k)
theorem come_far {w : World} {base c b mp n L : Nat} {pv v5 : Value} {cA : Option Addr} {cc : Nat} {f : I64 → Option Int} {cs : Array Value} {C : PC} (h : CMem w base c b mp n L pv (.slice cA n cc) v5 f cs C) (t : Nat) (s : PSt) (tv : Value) (x : Bool) (_hn : n ≤ 100000) (hf : n ≤ t) (_ht : t ≤ 100000000) :
    Calls Tryd.prog 32 #[.pointer (some ⟨c, 0, none⟩), .int .i64 (t : Int), .agg #[.int .i64 s.of, .int .i64 s.height, tv, .bool x]] w fun e w' => e = .returned (.tuple #[]) ∧ COut w w' base c b mp n L pv (.slice cA n cc) v5 (C.come n t s) := by
  have hE : C.come n t s = C.badly := if_pos hf
  rw [hE]
  have h1 := h.old ((Chg.refl (fun _ => False) w).alloc (.cells #[.int .i64 s.of, .int .i64 s.height, tv, .bool true] 49))
  have x1 := h1.ck.cell 1
  have x5 := h1.ck.cell 5
  have f5 := h1.ck.frozen 5
  have hlt := h1.ck.lt
  have hlt0 := h.ck.lt
  simp only [List.getElem?_toArray, List.getElem?_cons_zero, List.getElem?_cons_succ] at x1 x5
  have hd : decide ((n : Int) ≤ (t : Int)) = true := decide_eq_true (by omega)
  have HB := hide (h.badly.old ((Chg.refl (fun _ => False) (w.setCell ⟨c, 5, none⟩ (.bool true))).alloc (.cells #[.int .i64 s.of, .int .i64 s.height, tv, .bool true] 49)))
  have HC := hide (show Chg (fun k => k = c ∨ k = b ∨ k = mp ∨ v5.ownBlock = some k) w ((w.setCell ⟨c, 5, none⟩ (.bool true)).alloc (.cells #[.int .i64 s.of, .int .i64 s.height, tv, .bool true] 49)) from ((Chg.refl _ w).setCell (fun _ => .inl rfl) _).alloc _)
  clear h h1 hE
  go_enter Tryd.func32, Tryd.ntmps32
  go_wp2_with fail
  go_end0
  exact ⟨rfl, v5, f, cs, unhide HB, unhide HC, .inl rfl⟩
theorem CMem.setAt {w : World} {base c b mp n L : Nat} {pv cv v5 tv : Value} {f : I64 → Option Int} {cs : Array Value} {C : PC} (h : CMem w base c b mp n L pv cv v5 f cs C) {t : Nat} {s : PSt} (ht : t < n) (hs : RdI (TT w c b mp v5) w tv s.tries) (hl : s.tries.length ≤ 1000) :
    CMem ((((w.setCell ⟨b, t * 4, none⟩ (.int .i64 s.of)).setCell ⟨b, t * 4 + 1, none⟩ (.int .i64 s.height)).setCell ⟨b, t * 4 + 2, none⟩ tv).setCell ⟨b, t * 4 + 3, none⟩ (.bool true)) base c b mp n L pv cv v5 f (Go.Proofs.YtejkaalhjocmgaaDoor.set4 cs t (.int .i64 s.of) (.int .i64 s.height) tv (.bool true)) ⟨C.at_.set t (some s), C.has, C.work, C.bad⟩ := by
  obtain ⟨N, hN, hm⟩ := h.mp_
  have hS : Chg (fun i => i = b) w ((((w.setCell ⟨b, t * 4, none⟩ (.int .i64 s.of)).setCell ⟨b, t * 4 + 1, none⟩ (.int .i64 s.height)).setCell ⟨b, t * 4 + 2, none⟩ tv).setCell ⟨b, t * 4 + 3, none⟩ (.bool true)) :=
    ((((Chg.refl (fun i => i = b) w).setCell (fun _ => rfl) _).setCell (fun _ => rfl) _).setCell (fun _ => rfl) _).setCell (fun _ => rfl) _
  have hz : ((((w.setCell ⟨b, t * 4, none⟩ (.int .i64 s.of)).setCell ⟨b, t * 4 + 1, none⟩ (.int .i64 s.height)).setCell ⟨b, t * 4 + 2, none⟩ tv).setCell ⟨b, t * 4 + 3, none⟩ (.bool true)).heap.size = w.heap.size := by simp only [size_set]
  have ha := h.ats.set4 (k := t) (p := s) (by rw [h.len]; exact ht) hs (fun e => e.2.2.1 rfl)
  have hbs := h.base_
  refine ⟨h.ck.chg hS h.ncb, ⟨ha.blk, ha.sz, fun k o hk => (ha.at_ k o hk).chg (Chg.refl (fun _ => False) _) (fun _ _ _ => id) (fun t ht _ => ⟨by rw [hz]; exact ht.1, ht.2⟩)⟩, by rw [List.length_set]; exact h.len, ⟨N, hN, hm.chg hS (fun e => h.nbm e.symm)⟩, h.has, own_chg h.wk hS (fun k hk e => h.nob (e ▸ hk)), fun k p hk => ?_, ⟨hbs.1, hbs.2.1, hbs.2.2.1, by rw [hz]; exact hbs.2.2.2⟩⟩
  rw [List.getElem?_set] at hk
  split at hk
  · rename_i e
    subst e
    try rw [if_pos (by rw [h.len]; exact ht)] at hk
    injection hk with hk
    injection hk with hk
    subst hk
    exact hl
  · exact h.tl k p hk
/-- One more is to be done. -/
theorem CMem.push {w w' : World} {base c b mp n L : Nat} {pv cv v5 v5' : Value} {f : I64 → Option Int} {cs : Array Value} {C : PC} (h : CMem w base c b mp n L pv cv v5 f cs C) {t : Nat} (ho : w'.ownsRow base 3 1 v5' (C.work.length + 1) (C.work.map (fun k : Nat => intl (k : Int)) ++ [intl (t : Int)])) (hc : Chg (fun k => v5.ownBlock = some k) w w') (hv : v5'.ownBlock = v5.ownBlock ∨ ∃ k, v5'.ownBlock = some k ∧ w.heap.size ≤ k) :
    CMem (w'.setCell ⟨c, 4, none⟩ v5') base c b mp n L pv cv v5' f cs ⟨C.at_, C.has, C.work ++ [t], C.bad⟩ := by
  obtain ⟨N, hN, hm⟩ := h.mp_
  have hbs := h.base_
  have hs := hc.size
  have hcl := h.ck.lt
  have hS : Chg (fun i => i = c) w' (w'.setCell ⟨c, 4, none⟩ v5') := (Chg.refl (fun i => i = c) w').setCell (fun _ => rfl) _
  have hck := h.ck.chg hc (fun e => h.noc e)
  have hne : v5'.ownBlock ≠ some c := own_blk_ne ho hck (by decide)
  refine ⟨hck.set_ 4 v5', ((h.ats.chg hc (fun e => h.nob e) (fun t ht _ e => ht.2.2.2.2 e) (T' := fun t => t < w.heap.size ∧ t ≠ c ∧ t ≠ b ∧ t ≠ mp ∧ v5.ownBlock ≠ some t) (fun t ht _ => ht)).chg hS (fun e => h.ncb e.symm) (fun t ht _ e => ht.2.1 e) (fun t ht hl => ⟨by rw [size_set] at hl ⊢; exact hl, ht.2.1, ht.2.2.1, ht.2.2.2.1, ?_⟩)), h.len, ⟨N, hN, (hm.chg hc (fun e => h.nom e)).chg hS (fun e => h.ncm e.symm)⟩, h.has, ?_, h.tl, ⟨hbs.1, hbs.2.1, hbs.2.2.1, by rw [size_set]; omega⟩⟩
  · rcases hv with e | ⟨k, e, hk⟩
    · rw [e]; exact ht.2.2.2.2
    · rw [e]; intro e2; injection e2 with e2; have := ht.1; omega
  · have := own_chg ho hS (fun k hk e => hne (e ▸ hk))
    rw [List.length_append, List.map_append]
    exact this
theorem come_new {w : World} {base c b mp n L : Nat} {pv v5 : Value} {cA : Option Addr} {cc : Nat} {f : I64 → Option Int} {cs : Array Value} {C : PC} (h : CMem w base c b mp n L pv (.slice cA n cc) v5 f cs C) (t : Nat) (s : PSt) (tv : Value) (x : Bool) (_hn : n ≤ 100000) (hf : t < n) (he : C.at_[t]? = some none) (hs : RdI (TT w c b mp v5) w tv s.tries) (hl : s.tries.length ≤ 1000) (hw : C.work.length ≤ 100000) :
    Calls Tryd.prog 32 #[.pointer (some ⟨c, 0, none⟩), .int .i64 (t : Int), .agg #[.int .i64 s.of, .int .i64 s.height, tv, .bool x]] w fun e w' => e = .returned (.tuple #[]) ∧ COut w w' base c b mp n L pv (.slice cA n cc) v5 (C.come n t s) := by
  obtain ⟨i0, hi0, hz0, hz1, hz2⟩ := info_parts info3
  have hE : C.come n t s = ⟨C.at_.set t (some s), C.has, C.work ++ [t], C.bad⟩ := by unfold PC.come; rw [if_neg (by omega), he]
  rw [hE]
  have x1 := h.ck.cell 1
  have x2 := h.ck.cell 2
  have hlt := h.ck.lt
  have hbl := h.ats.blk.lt
  have hsz := h.ats.sz
  have hlen := h.len
  obtain ⟨z0, z1, z2, z3⟩ := h.ats.at_ t none he
  have y0 := h.ats.blk.cell' z0
  have y1 := h.ats.blk.cell' z1
  have y2 := h.ats.blk.cell' z2
  have y3 := h.ats.blk.cell' z3
  have fr := fun k => h.ats.blk.frozen k
  have f0 := fr (t * 4)
  have f1 := fr (t * 4 + 1)
  have f2 := fr (t * 4 + 2)
  have f3 := fr (t * 4 + 3)
  have hncb := h.ncb
  simp only [List.getElem?_toArray, List.getElem?_cons_zero, List.getElem?_cons_succ] at x1 x2
  have hd : decide ((n : Int) ≤ (t : Int)) = false := decide_eq_false (by omega)
  obtain ⟨A, cp, rfl⟩ := hs.val
  have H := hide h
  have HS := hide hs
  clear h hs hE he z0 z1 z2 z3 fr
  go_enter Tryd.func32, Tryd.ntmps32
  go_upto_region 5 with fail
  have b0 : ((w.alloc (.cells #[.int .i64 s.of, .int .i64 s.height, .slice A s.tries.length cp, .bool true] 49))).cell? ⟨w.heap.size, 0, none⟩ = some (.int .i64 s.of) := (Blk.new w 49 _).cell 0
  have b1 : ((w.alloc (.cells #[.int .i64 s.of, .int .i64 s.height, .slice A s.tries.length cp, .bool true] 49))).cell? ⟨w.heap.size, 1, none⟩ = some (.int .i64 s.height) := (Blk.new w 49 _).cell 1
  have b2 : ((w.alloc (.cells #[.int .i64 s.of, .int .i64 s.height, .slice A s.tries.length cp, .bool true] 49))).cell? ⟨w.heap.size, 2, none⟩ = some (.slice A s.tries.length cp) := (Blk.new w 49 _).cell 2
  have b3 : ((w.alloc (.cells #[.int .i64 s.of, .int .i64 s.height, .slice A s.tries.length cp, .bool true] 49))).cell? ⟨w.heap.size, 3, none⟩ = some (.bool true) := (Blk.new w 49 _).cell 3
  have KSW := hide (show ∀ w4 : World, Chg (fun k => k = b) w w4 → w4.heap.size = w.heap.size → (((w4.alloc (.cells #[.int .i64 s.of, .int .i64 s.height, .slice A s.tries.length cp, .bool true] 49)).drew.cell? ⟨c, 2, none⟩ = some (.slice (some ⟨b, 0, none⟩) n n)) ∧ ((w4.alloc (.cells #[.int .i64 s.of, .int .i64 s.height, .slice A s.tries.length cp, .bool true] 49)).drew.cell? ⟨w.heap.size, 0, none⟩ = some (.int .i64 s.of)) ∧ ((w4.alloc (.cells #[.int .i64 s.of, .int .i64 s.height, .slice A s.tries.length cp, .bool true] 49)).drew.cell? ⟨w.heap.size, 1, none⟩ = some (.int .i64 s.height)) ∧ ((w4.alloc (.cells #[.int .i64 s.of, .int .i64 s.height, .slice A s.tries.length cp, .bool true] 49)).drew.cell? ⟨w.heap.size, 2, none⟩ = some (.slice A s.tries.length cp)) ∧ ((w4.alloc (.cells #[.int .i64 s.of, .int .i64 s.height, .slice A s.tries.length cp, .bool true] 49)).drew.cell? ⟨w.heap.size, 3, none⟩ = some (.bool true))) from fun w4 h4 e4 => by
    have k1 := (((unhide H).ck.chg h4 hncb).alloc (.cells #[.int .i64 s.of, .int .i64 s.height, .slice A s.tries.length cp, .bool true] 49)).drew
    have k2 := (Blk.new_at w4 w.heap.size 49 #[.int .i64 s.of, .int .i64 s.height, .slice A s.tries.length cp, .bool true] e4.symm).drew
    exact ⟨k1.cell 2, k2.cell 0, k2.cell 1, k2.cell 2, k2.cell 3⟩)
  go_region_held3 (fun W' => W'.cell? ⟨c, 2, none⟩ = some (.slice (some ⟨b, 0, none⟩) n n) ∧ W'.cell? ⟨w.heap.size, 0, none⟩ = some (.int .i64 s.of) ∧ W'.cell? ⟨w.heap.size, 1, none⟩ = some (.int .i64 s.height) ∧ W'.cell? ⟨w.heap.size, 2, none⟩ = some (.slice A s.tries.length cp) ∧ W'.cell? ⟨w.heap.size, 3, none⟩ = some (.bool true)) (first | exact (unhide KSW) _ (((((Chg.refl (fun k => k = b) w).setCell (fun _ => rfl) _).setCell (fun _ => rfl) _).setCell (fun _ => rfl) _).setCell (fun _ => rfl) _) (by simp only [size_set]) | go_keep) (fail)
  all_goals
    try dsimp only
    have h1 := (((unhide H).setAt (s := s) hf (unhide HS) hl).old ((Chg.refl (fun _ => False) _).alloc (.cells #[.int .i64 s.of, .int .i64 s.height, .slice A s.tries.length cp, .bool true] 49))).old (Chg.refl (fun _ => False) _).drew
    have hc1 := ((((((Chg.refl (fun k => k = c ∨ k = b ∨ k = mp ∨ v5.ownBlock = some k) w).setCell (p := ⟨b, t * 4, none⟩) (fun _ => .inr (.inl rfl)) (.int .i64 s.of)).setCell (p := ⟨b, t * 4 + 1, none⟩) (fun _ => .inr (.inl rfl)) (.int .i64 s.height)).setCell (p := ⟨b, t * 4 + 2, none⟩) (fun _ => .inr (.inl rfl)) (.slice A s.tries.length cp)).setCell (p := ⟨b, t * 4 + 3, none⟩) (fun _ => .inr (.inl rfl)) (.bool true)).alloc (.cells #[.int .i64 s.of, .int .i64 s.height, .slice A s.tries.length cp, .bool true] 49)).drew
    have H1 := hide h1
    have HC1 := hide hc1
    have x1 := h1.ck.cell 1
    have x4 := h1.ck.cell 4
    have f4 := h1.ck.frozen 4
    have hlt1 := h1.ck.lt
    simp only [List.getElem?_toArray, List.getElem?_cons_zero, List.getElem?_cons_succ] at x1 x4
    clear h1 hc1 KSW HS
    generalize (((((w.setCell ⟨b, t * 4, none⟩ (.int .i64 s.of)).setCell ⟨b, t * 4 + 1, none⟩ (.int .i64 s.height)).setCell ⟨b, t * 4 + 2, none⟩ (.slice A s.tries.length cp)).setCell ⟨b, t * 4 + 3, none⟩ (.bool true)).alloc (.cells #[.int .i64 s.of, .int .i64 s.height, .slice A s.tries.length cp, .bool true] 49)).drew = w1 at *
    clear b0 b1 b2 b3 y0 y1 y2 y3 f0 f1 f2 f3 x2
    have hbase := (unhide H1).base_.2.2.2
    have mx1 : C.work.length + 1 ≤ maxLen := by simp only [maxLen]; omega
    have mx2 : (C.work.length + 1) * 8 ≤ 140737488355328 := by omega
    have hb1 : base ≤ (w1.alloc (.cells #[.int .i64 (t : Int)] 3)).heap.size := by rw [size_alloc]; omega
    have ho1 : ∀ u ∈ [intl (t : Int)], u.oneCell' = true := by intro u hu; simp at hu; subst hu; rfl
    have HR := hide (rd_new w1 w1.heap.size 3 [intl (t : Int)] rfl)
    have HW := hide ((unhide H1).wk.alloc (.cells #[.int .i64 (t : Int)] 3))
    have HL := hide (show ∀ k, v5.ownBlock = some k → k < w1.heap.size from fun k hk => ((unhide H1).wk.lt k hk).2)
    go_wp2_with (at_builtin
                 refine wpList_append_rd _ rfl (.tmp 40) (.tmp 42) 30 rfl base 3 i0 (.int .i64 0) 1 8 Tryd.underlying30 hi0 hz0 hz1 hz2 rfl (by omega) v5 C.work.length _ rfl (unhide HW) (· = w1.heap.size) (some ⟨w1.heap.size, 0, none⟩) 1 1 [intl (t : Int)] rfl rfl (unhide HR) ho1 mx1 mx2 hb1 ?_
                 intro v3 w3 ho3 hc3 hat
                 have HO3 := hide ho3
                 have hc13 := ((Chg.refl (fun k => v5.ownBlock = some k) w1).alloc (.cells #[.int .i64 (t : Int)] 3)).trans hc3 (fun _ _ h => h)
                 have HC3 := hide hc13
                 have HAT := hide hat
                 obtain ⟨A3, c3, rfl⟩ := own_val ho3
                 have hk3 := (unhide H1).ck.chg hc13 (fun e => (unhide H1).noc e)
                 have x43 := hk3.cell 4
                 have f43 := hk3.frozen 4
                 simp only [List.getElem?_toArray, List.getElem?_cons_zero, List.getElem?_cons_succ] at x43
                 clear ho3 hc3 hat hc13 hk3)
    go_end0
    refine ⟨rfl, _, f, _, (unhide H1).push (t := t) (unhide HO3) (unhide HC3) ((unhide HAT).imp id (fun e => ⟨_, e, by rw [size_alloc]; omega⟩)), ((unhide HC1).trans (unhide HC3) (fun k _ e => .inr (.inr (.inr e)))).setCell (fun _ => .inl rfl) _, (unhide HAT).imp id (fun e => ⟨_, e, by rw [size_alloc]; have := (unhide HC1).size; omega⟩)⟩
theorem come_old {w : World} {base c b mp n L : Nat} {pv v5 : Value} {cA : Option Addr} {cc : Nat} {f : I64 → Option Int} {cs : Array Value} {C : PC} (h : CMem w base c b mp n L pv (.slice cA n cc) v5 f cs C) (t : Nat) (s p : PSt) (tv : Value) (x : Bool) (_hn : n ≤ 100000) (hf : t < n) (he : C.at_[t]? = some (some p)) (hs : RdI (TT w c b mp v5) w tv s.tries) (hl : s.tries.length ≤ 1000) :
    Calls Tryd.prog 32 #[.pointer (some ⟨c, 0, none⟩), .int .i64 (t : Int), .agg #[.int .i64 s.of, .int .i64 s.height, tv, .bool x]] w fun e w' => e = .returned (.tuple #[]) ∧ COut w w' base c b mp n L pv (.slice cA n cc) v5 (C.come n t s) := by
  have hE : C.come n t s = if p.same s then C else C.badly := by unfold PC.come; rw [if_neg (by omega), he]
  have hlp := h.tl t p he
  obtain ⟨tp, z0, z1, z2, z3, hp⟩ := h.ats.at_ t (some p) he
  have hlt := h.ck.lt
  have hsz := h.ats.sz
  have hlen := h.len
  obtain ⟨A, cp, rfl⟩ := hs.val
  obtain ⟨A2, cp2, rfl⟩ := hp.val
  have ha := (Chg.refl (fun _ => False) w).alloc (.cells #[.int .i64 s.of, .int .i64 s.height, .slice A s.tries.length cp, .bool true] 49)
  have h1 := h.old ha
  have x1 := h1.ck.cell 1
  have x2 := h1.ck.cell 2
  have y0 := h1.ats.blk.cell' z0
  have y1 := h1.ats.blk.cell' z1
  have y2 := h1.ats.blk.cell' z2
  have y3 := h1.ats.blk.cell' z3
  have hx := Blk.new w 49 #[.int .i64 s.of, .int .i64 s.height, .slice A s.tries.length cp, .bool true]
  have b0 := hx.cell 0
  have b1 := hx.cell 1
  have b2 := hx.cell 2
  have b3 := hx.cell 3
  simp only [List.getElem?_toArray, List.getElem?_cons_zero, List.getElem?_cons_succ] at x1 x2 b0 b1 b2 b3
  have hd : decide ((n : Int) ≤ (t : Int)) = false := decide_eq_false (by omega)
  have r0 := fun d os => cell_regrown y0 d os
  have r1 := fun d os => cell_regrown y1 d os
  have r2 := fun d os => cell_regrown y2 d os
  have r3 := fun d os => cell_regrown y3 d os
  have q0 := fun d os => cell_regrown b0 d os
  have q1 := fun d os => cell_regrown b1 d os
  have q2 := fun d os => cell_regrown b2 d os
  have q3 := fun d os => cell_regrown b3 d os
  have u2 := fun d os => cell_regrown x2 d os
  have HS := hide (fun d os => same_any p s (.slice A2 p.tries.length cp2) (.slice A s.tries.length cp) true true _ _ (Go.Sort.grow (redrawn (w.alloc (.cells #[.int .i64 s.of, .int .i64 s.height, .slice A s.tries.length cp, .bool true] 49)) d) os)
    ((hp.chg ha (fun _ _ _ => id)).chg (chg_regrown _ d os) (fun _ _ _ => id)) ((hs.chg ha (fun _ _ _ => id)).chg (chg_regrown _ d os) (fun _ _ _ => id)) (by omega) (by omega))
  have H1 := hide h1
  have HA := hide ha
  rw [hE]
  have y3b := h.ats.blk.cell' z3
  have hbl := h.ats.blk.lt
  have x2b := h.ck.cell 2
  have x1b := h.ck.cell 1
  simp only [List.getElem?_toArray, List.getElem?_cons_zero, List.getElem?_cons_succ] at x2b x1b
  clear h h1 ha hs hp he hE hx y0 y1 y2 y3 b0 b1 b2 b3 x2 z0 z1 z2 z3
  cases hsm : p.same s
  all_goals
    rw [hsm] at HS
    clear hsm
    go_enter Tryd.func32, Tryd.ntmps32
    go_upto_region 7 with fail
    refine wp_region_quiet_below (by kernel_rfl) (by kernel_rfl) ?_
    repeat (any_goals (first | go_big_quiet_step ((exact Calls.regrown_of (rq ((unhide HS) _ _)))) | quiet_step ((exact Calls.regrown_of (rq ((unhide HS) _ _))))))
    refine wpQuiet_nil ?_
    intro _ hw'
    obtain ⟨⟨dq, osq⟩, hw''⟩ := hw'
    subst hw''
    have hq := chg_regrown (w.alloc (.cells #[.int .i64 s.of, .int .i64 s.height, .slice A s.tries.length cp, .bool true] 49)) dq osq
    generalize Go.Sort.grow (redrawn (w.alloc (.cells #[.int .i64 s.of, .int .i64 s.height, .slice A s.tries.length cp, .bool true] 49)) dq) osq = w2 at *
    have h2 := (unhide H1).old hq
    have HQ := hide ((unhide HA).trans' hq)
    have x5 := h2.ck.cell 5
    have f5 := h2.ck.frozen 5
    have hlt2 := h2.ck.lt
    simp only [List.getElem?_toArray, List.getElem?_cons_zero, List.getElem?_cons_succ] at x5
    have H2 := hide h2
    clear h2 hq r0 r1 r2 r3 q0 q1 q2 q3 u2 HS
    try dsimp only
    go_wp2_with fail
    go_end0
    first
    | exact ⟨rfl, v5, f, cs, unhide H2, (unhide HQ).mono (fun _ _ h => h.elim), .inl rfl⟩
    | exact ⟨rfl, v5, f, cs, (unhide H2).badly, ((unhide HQ).mono (fun _ _ h => h.elim)).setCell (fun _ => .inl rfl) _, .inl rfl⟩
theorem come_any {w : World} {base c b mp n L : Nat} {pv v5 : Value} {cA : Option Addr} {cc : Nat} {f : I64 → Option Int} {cs : Array Value} {C : PC} (h : CMem w base c b mp n L pv (.slice cA n cc) v5 f cs C) (t : Nat) (s : PSt) (tv : Value) (x : Bool) (hn : n ≤ 100000) (ht : t ≤ 100000000) (hs : RdI (TT w c b mp v5) w tv s.tries) (hl : s.tries.length ≤ 1000) (hw : C.work.length ≤ 100000) :
    Calls Tryd.prog 32 #[.pointer (some ⟨c, 0, none⟩), .int .i64 (t : Int), .agg #[.int .i64 s.of, .int .i64 s.height, tv, .bool x]] w fun e w' => e = .returned (.tuple #[]) ∧ COut w w' base c b mp n L pv (.slice cA n cc) v5 (C.come n t s) := by
  by_cases hf : n ≤ t
  · exact come_far h t s tv x hn hf ht
  · cases he : C.at_[t]? with
    | none => exact absurd (List.getElem?_eq_none_iff.1 he) (by rw [h.len]; omega)
    | some o =>
      cases o with
      | none => exact come_new h t s tv x hn (by omega) he hs hl hw
      | some p => exact come_old h t s p tv x hn (by omega) he hs hl
end Go.Proofs.YtejkaalhjocmgaaDoor
