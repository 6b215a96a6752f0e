/-
  Layer 19: where an instruction is done: the function.
-/
import Derived.Test.YtejkaalhjocmgaaDoorXe
namespace Go.Proofs.YtejkaalhjocmgaaDoor
open Go.RowKit
set_option maxHeartbeats 1000000
set_option maxRecDepth 1000000
set_option maxHeartbeats 4000000
theorem do_any_n {w : World} {base c b mp n L : Nat} {m : Im} {pA cA : Option Addr} {pc cc : Nat} {v5 : Value} {f : I64 → Option Int} {cs : Array Value} {C : PC} {at_ : Nat} {s : PSt} (h : DoIn w base c b mp n L m pA cA pc cc v5 f cs C at_ s) (he : s.tries ≠ []) :
    Calls Tryd.prog 33 #[.pointer (some ⟨c, 0, none⟩), .int .i64 (at_ : Int)] w fun e w' => e = .returned (.tuple #[]) ∧ COut w w' base c b mp n (L + 1) (.slice pA m.pool.length pc) (.slice cA n cc) v5 (C.act conB m at_ s) := by
  obtain ⟨tv, z0, z1, z2, z3, htr⟩ := h.mem.ats.at_ _ _ h.st
  have hat : at_ < n := by
    have := lt_of_some h.st
    rw [h.mem.len] at this
    exact this
  have hnc := h.ncode
  obtain ⟨bb, oo, hcA, _, hcd⟩ := code_at h.cd (by intro e; rw [e] at hnc; simp at hnc; omega)
  have hins : m.code[at_]? = some (insAt m at_) := by
    unfold insAt
    rw [List.getD_eq_getElem?_getD, List.getElem?_eq_getElem (by omega)]
    rfl
  obtain ⟨i0, i1, i2⟩ := hcd at_ _ hins
  have y0 := h.mem.ats.blk.cell' z0
  have y1 := h.mem.ats.blk.cell' z1
  have y2 := h.mem.ats.blk.cell' z2
  have y3 := h.mem.ats.blk.cell' z3
  have x1 := h.mem.ck.cell 1
  have x2 := h.mem.ck.cell 2
  simp only [List.getElem?_toArray, List.getElem?_cons_zero, List.getElem?_cons_succ] at x1 x2
  rw [hcA] at x1
  have hn := h.n_
  have hsz := h.mem.ats.sz
  have hlen := h.mem.len
  have hbl := h.mem.ats.blk.lt
  have hcl := h.mem.ck.lt
  obtain ⟨tA, tcp, htv⟩ := htr.val
  have hlp : 0 < s.tries.length := List.length_pos_iff.2 he
  have hfl0 := htr
  rw [htv] at hfl0
  obtain ⟨tb, to_, htA, _, htc⟩ := RdI.flat hfl0 he
  have hfl1 := htc (s.tries.length - 1) (by omega)
  have hfl2 : s.tries.getD (s.tries.length - 1) 0 = floorT s.tries := by
    unfold floorT
    rw [List.getLast?_eq_getElem?, List.getD_eq_getElem?_getD]
  rw [hfl2] at hfl1
  have HFL := hide hfl1
  clear hfl0 htc hfl1 hfl2
  rw [htA] at htv
  rw [htv] at y2
  have b1 := Blk.new w 64 #[.pointer (some ⟨c, 0, none⟩)]
  have c1 := (Chg.refl (fun _ => False) w).alloc (.cells #[.pointer (some ⟨c, 0, none⟩)] 64)
  have hz1 : (w.alloc (.cells #[.pointer (some ⟨c, 0, none⟩)] 64)).heap.size = w.heap.size + 1 := size_alloc _ _
  have x0 := b1.cell 0
  simp only [List.getElem?_toArray, List.getElem?_cons_zero] at x0
  have w0 := (c1.cell (p := ⟨bb, oo + at_ * 3, none⟩) (hat_lt i0) id).trans i0
  have w1 := (c1.cell (p := ⟨bb, oo + at_ * 3 + 1, none⟩) (hat_lt i1) id).trans i1
  have w2 := (c1.cell (p := ⟨bb, oo + at_ * 3 + 2, none⟩) (hat_lt i2) id).trans i2
  have v0 := (c1.cell (p := ⟨b, at_ * 4, none⟩) (hat_lt y0) id).trans y0
  have v1 := (c1.cell (p := ⟨b, at_ * 4 + 1, none⟩) (hat_lt y1) id).trans y1
  have v2 := (c1.cell (p := ⟨b, at_ * 4 + 2, none⟩) (hat_lt y2) id).trans y2
  have v3 := (c1.cell (p := ⟨b, at_ * 4 + 3, none⟩) (hat_lt y3) id).trans y3
  have u1 := (c1.cell (p := ⟨c, 1, none⟩) hcl id).trans x1
  have u2 := (c1.cell (p := ⟨c, 2, none⟩) hcl id).trans x2
  have H := hide h
  have HB := hide b1
  have HC := hide c1
  have HZ := hide hz1
  have HTR := hide htr
  have HTV := hide htv
  have HE := hide he
  have htrl := (unhide H).trl
  have HNC := hide hnc
  have HCA := hide hcA
  have HSZ := hide hsz
  have hatC : (at_ : Int) < (C.at_.length : Int) := by omega
  have HLEN := hide hlen
  clear h z0 z1 z2 z3 htr hnc hcA hcd hins i0 i1 i2 y0 y1 y2 y3 x1 x2 hsz hlen htv htA b1 c1 he hatC hz1
  generalize hop : (insAt m at_).op = op at *
  generalize hia : (insAt m at_).a = ia at *
  generalize hib : (insAt m at_).b = ib at *
  have HOP := hide hop
  have HIA := hide hia
  have HIB := hide hib
  clear hop hia hib
  go_enter Tryd.func33, Tryd.ntmps33
  go_upto_region 1 with fail
  generalize w.alloc (.cells #[.pointer (some ⟨c, 0, none⟩)] 64) = W1 at *
  refine wp_region_noPanic ?_
  go_region_held3 (fun W' => W'.cell? ⟨w.heap.size, 0, none⟩ = some (.pointer (some ⟨c, 0, none⟩)) ∧ W'.cell? ⟨c, 1, none⟩ = some (.slice (some ⟨bb, oo, none⟩) n cc) ∧ W'.cell? ⟨c, 2, none⟩ = some (.slice (some ⟨b, 0, none⟩) n n) ∧ W'.cell? ⟨bb, oo + at_ * 3, none⟩ = some (.int .i64 op) ∧ W'.cell? ⟨bb, oo + at_ * 3 + 1, none⟩ = some (.int .i64 ia) ∧ W'.cell? ⟨bb, oo + at_ * 3 + 2, none⟩ = some (.int .i64 ib) ∧ W'.cell? ⟨b, at_ * 4, none⟩ = some (.int .i64 s.of) ∧ W'.cell? ⟨b, at_ * 4 + 1, none⟩ = some (.int .i64 s.height) ∧ W'.cell? ⟨b, at_ * 4 + 2, none⟩ = some (.slice (some ⟨tb, to_, none⟩) s.tries.length tcp) ∧ W'.cell? ⟨b, at_ * 4 + 3, none⟩ = some (.bool true)) (go_keep) (fail)
  · refine NoPanic.normal ?_
    try dsimp only
    have hzz := unhide HZ
    have kib : Blk ((W1.alloc (.cells #[.int .i64 op, .int .i64 ia, .int .i64 ib] 42)).alloc (.cells #[.int .i64 s.of, .int .i64 s.height, .slice (some ⟨tb, to_, none⟩) s.tries.length tcp, .bool true] 49)).drew W1.heap.size 42 #[.int .i64 op, .int .i64 ia, .int .i64 ib] := (Blk.new W1 42 #[.int .i64 op, .int .i64 ia, .int .i64 ib]).alloc _
    have ksb : Blk ((W1.alloc (.cells #[.int .i64 op, .int .i64 ia, .int .i64 ib] 42)).alloc (.cells #[.int .i64 s.of, .int .i64 s.height, .slice (some ⟨tb, to_, none⟩) s.tries.length tcp, .bool true] 49)).drew (W1.heap.size + 1) 49 #[.int .i64 s.of, .int .i64 s.height, .slice (some ⟨tb, to_, none⟩) s.tries.length tcp, .bool true] := Blk.drew (Blk.new_at _ _ _ _ (by simp))
    have c2 : Chg (fun _ => False) W1 ((W1.alloc (.cells #[.int .i64 op, .int .i64 ia, .int .i64 ib] 42)).alloc (.cells #[.int .i64 s.of, .int .i64 s.height, .slice (some ⟨tb, to_, none⟩) s.tries.length tcp, .bool true] 49)).drew := (((Chg.refl _ W1).alloc _).alloc _).drew
    generalize ((W1.alloc (.cells #[.int .i64 op, .int .i64 ia, .int .i64 ib] 42)).alloc (.cells #[.int .i64 s.of, .int .i64 s.height, .slice (some ⟨tb, to_, none⟩) s.tries.length tcp, .bool true] 49)).drew = W2 at *
    generalize hib : W1.heap.size = ib_ at *
    generalize hsb : ib_ + 1 = sb_ at *
    have gib : w.heap.size ≤ ib_ := by omega
    have gsb : w.heap.size ≤ sb_ := by omega
    have c3 := (unhide HC).trans' c2
    have kcb := (unhide HB).chg c2 id
    have gfb : w.heap.size ≤ W2.heap.size := c3.size
    have c4 := c3.alloc (.cells #[.int .i64 (floorT s.tries)] 3)
    have kfb := Blk.new W2 3 #[.int .i64 (floorT s.tries)]
    have a1 := (Chg.refl (fun _ => False) W2).alloc (.cells #[.int .i64 (floorT s.tries)] 3)
    have kib2 := kib.chg a1 id
    have ksb2 := ksb.chg a1 id
    have kcb2 := kcb.chg a1 id
    rw [← unhide HOP, ← unhide HIA, ← unhide HIB] at kib2
    rw [← unhide HTV] at ksb2
    have HST := hide ((unhide H).st_ c4 (unhide HTR) (Nat.le_refl _) gib gsb gfb kcb2 kib2 ksb2 kfb)
    have HC4 := hide c4
    have i0 := kib.cell 0
    have s0 := ksb.cell 0
    have s1 := ksb.cell 1
    have s2 := ksb.cell 2
    have il := kib.lt
    have sl := ksb.lt
    simp only [List.getElem?_toArray, List.getElem?_cons_zero, List.getElem?_cons_succ] at i0 s0 s1 s2
    have hl0 : decide ((0 : Int) < (s.tries.length : Int)) = true := decide_eq_true (by omega)
    have hl1 : decide (0 < s.tries.length) = true := decide_eq_true hlp
    have q0 := (c3.cell (p := ⟨tb, to_ + (s.tries.length - 1), none⟩) (hat_lt (unhide HFL)) id).trans (unhide HFL)
    have tbl := hat_lt q0
    clear kib ksb c2 kcb c4 kfb a1 kib2 ksb2 kcb2 hzz c3 hib hsb
    go_upto_block 0 with fail
    have hop := unhide HOP
    subst hop
    refine do_all _ _ _ _ _ _ _ _ _ _ _ _ _ _ _ _ _ _ _ _ _ _ _ _ _ _ _ _ _ _ _ _ _ _ _ _ _ _ _ _ _ _ _ _ _ _ _ _ _ _ _ _ _ _ _ _ _ _ _ _ _ _ _ _ _ _ _ _ _ _ _ _ _ _ _ _ _ _ _ _ _ _ _ _ _ _ _ _ _ _ _ _ _ _ _ _ _ _ _ _ _ _ _ _ _ _ _ _ _ _ _ _ _ _ _ _ _ _ _ _ _ _ _ _ _ _ _ _ _ _ _ _ _ _ _ _ _ _ _ _ _ _ _ _ _ _ _ _ _ _ _ _ _ _ _ _ _ _ _ _ _ _ _ _ _ _ _ _ _ _ _ _ _ _ _ _ _ _ _ _ _ _ _ _ _ _ _ _ _ _ _ _ _ _ _ _ _ _ _ _ _ _ _ _ _ _ _ _ _ _ _ _ _ _ _ _ _ _ _ _ _ _ _ _ _ _ _ _ _ _ _ _ _ _ _ _ _ _ _ _ _ _ _ _ _ _ _ _ _ _ _ _ _ _ _ _ _ _ _ _ _ _ _ _ _ _ _ _ _ _ _ _ _ _ _ _ _ _ _ _ _ _ _ _ _ _ _ _ _ _ _ _ _ _ _ _ _ _ _ _ _ _ _ _ _ _ _ _ _ _ _ _ _ base c b mp n L m pA cA pc cc v5 f cs C at_ s tv _ _ _ _ (unhide HST) w (unhide H).mem (unhide HC4) gsb gfb (unhide H).hh0 _ ?_
    intro tmps w3 hco
    have HCO := hide hco
    clear hco
    go_wp2_with fail
    go_end0
    exact ⟨rfl, unhide HCO⟩
  · refine NoPanic.normal ?_
    try dsimp only
    have hzz := unhide HZ
    have ksb : Blk ((W1.alloc (.cells #[.int .i64 s.of, .int .i64 s.height, .slice (some ⟨tb, to_, none⟩) s.tries.length tcp, .bool true] 49)).alloc (.cells #[.int .i64 op, .int .i64 ia, .int .i64 ib] 42)).drew W1.heap.size 49 #[.int .i64 s.of, .int .i64 s.height, .slice (some ⟨tb, to_, none⟩) s.tries.length tcp, .bool true] := (Blk.new W1 49 #[.int .i64 s.of, .int .i64 s.height, .slice (some ⟨tb, to_, none⟩) s.tries.length tcp, .bool true]).alloc _
    have kib : Blk ((W1.alloc (.cells #[.int .i64 s.of, .int .i64 s.height, .slice (some ⟨tb, to_, none⟩) s.tries.length tcp, .bool true] 49)).alloc (.cells #[.int .i64 op, .int .i64 ia, .int .i64 ib] 42)).drew (W1.heap.size + 1) 42 #[.int .i64 op, .int .i64 ia, .int .i64 ib] := Blk.drew (Blk.new_at _ _ _ _ (by simp))
    have c2 : Chg (fun _ => False) W1 ((W1.alloc (.cells #[.int .i64 s.of, .int .i64 s.height, .slice (some ⟨tb, to_, none⟩) s.tries.length tcp, .bool true] 49)).alloc (.cells #[.int .i64 op, .int .i64 ia, .int .i64 ib] 42)).drew := (((Chg.refl _ W1).alloc _).alloc _).drew
    generalize ((W1.alloc (.cells #[.int .i64 s.of, .int .i64 s.height, .slice (some ⟨tb, to_, none⟩) s.tries.length tcp, .bool true] 49)).alloc (.cells #[.int .i64 op, .int .i64 ia, .int .i64 ib] 42)).drew = W2 at *
    generalize hsb : W1.heap.size = sb_ at *
    generalize hib : sb_ + 1 = ib_ at *
    have gib : w.heap.size ≤ ib_ := by omega
    have gsb : w.heap.size ≤ sb_ := by omega
    have c3 := (unhide HC).trans' c2
    have kcb := (unhide HB).chg c2 id
    have gfb : w.heap.size ≤ W2.heap.size := c3.size
    have c4 := c3.alloc (.cells #[.int .i64 (floorT s.tries)] 3)
    have kfb := Blk.new W2 3 #[.int .i64 (floorT s.tries)]
    have a1 := (Chg.refl (fun _ => False) W2).alloc (.cells #[.int .i64 (floorT s.tries)] 3)
    have kib2 := kib.chg a1 id
    have ksb2 := ksb.chg a1 id
    have kcb2 := kcb.chg a1 id
    rw [← unhide HOP, ← unhide HIA, ← unhide HIB] at kib2
    rw [← unhide HTV] at ksb2
    have HST := hide ((unhide H).st_ c4 (unhide HTR) (Nat.le_refl _) gib gsb gfb kcb2 kib2 ksb2 kfb)
    have HC4 := hide c4
    have i0 := kib.cell 0
    have s0 := ksb.cell 0
    have s1 := ksb.cell 1
    have s2 := ksb.cell 2
    have il := kib.lt
    have sl := ksb.lt
    simp only [List.getElem?_toArray, List.getElem?_cons_zero, List.getElem?_cons_succ] at i0 s0 s1 s2
    have hl0 : decide ((0 : Int) < (s.tries.length : Int)) = true := decide_eq_true (by omega)
    have hl1 : decide (0 < s.tries.length) = true := decide_eq_true hlp
    have q0 := (c3.cell (p := ⟨tb, to_ + (s.tries.length - 1), none⟩) (hat_lt (unhide HFL)) id).trans (unhide HFL)
    have tbl := hat_lt q0
    clear kib ksb c2 kcb c4 kfb a1 kib2 ksb2 kcb2 hzz c3 hib hsb
    go_upto_block 0 with fail
    have hop := unhide HOP
    subst hop
    refine do_all _ _ _ _ _ _ _ _ _ _ _ _ _ _ _ _ _ _ _ _ _ _ _ _ _ _ _ _ _ _ _ _ _ _ _ _ _ _ _ _ _ _ _ _ _ _ _ _ _ _ _ _ _ _ _ _ _ _ _ _ _ _ _ _ _ _ _ _ _ _ _ _ _ _ _ _ _ _ _ _ _ _ _ _ _ _ _ _ _ _ _ _ _ _ _ _ _ _ _ _ _ _ _ _ _ _ _ _ _ _ _ _ _ _ _ _ _ _ _ _ _ _ _ _ _ _ _ _ _ _ _ _ _ _ _ _ _ _ _ _ _ _ _ _ _ _ _ _ _ _ _ _ _ _ _ _ _ _ _ _ _ _ _ _ _ _ _ _ _ _ _ _ _ _ _ _ _ _ _ _ _ _ _ _ _ _ _ _ _ _ _ _ _ _ _ _ _ _ _ _ _ _ _ _ _ _ _ _ _ _ _ _ _ _ _ _ _ _ _ _ _ _ _ _ _ _ _ _ _ _ _ _ _ _ _ _ _ _ _ _ _ _ _ _ _ _ _ _ _ _ _ _ _ _ _ _ _ _ _ _ _ _ _ _ _ _ _ _ _ _ _ _ _ _ _ _ _ _ _ _ _ _ _ _ _ _ _ _ _ _ _ _ _ _ _ _ _ _ _ _ _ _ _ _ _ _ _ _ _ _ _ _ _ base c b mp n L m pA cA pc cc v5 f cs C at_ s tv _ _ _ _ (unhide HST) w (unhide H).mem (unhide HC4) gsb gfb (unhide H).hh0 _ ?_
    intro tmps w3 hco
    have HCO := hide hco
    clear hco
    go_wp2_with fail
    go_end0
    exact ⟨rfl, unhide HCO⟩
end Go.Proofs.YtejkaalhjocmgaaDoor
