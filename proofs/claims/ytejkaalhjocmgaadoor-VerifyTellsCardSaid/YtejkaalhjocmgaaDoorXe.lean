/-
  Layer 19: where an instruction is done: the function.
-/
import Derived.Test.YtejkaalhjocmgaaDoorXd
namespace Go.Proofs.YtejkaalhjocmgaaDoor
open Go.RowKit
set_option maxHeartbeats 1000000
set_option maxRecDepth 1000000
set_option maxHeartbeats 4000000
/-- What is asked where an instruction is done. -/
structure DoIn (w : World) (base c b mp n L : Nat) (m : Im) (pA cA : Option Addr) (pc cc : Nat) (v5 : Value) (f : I64 → Option Int) (cs : Array Value) (C : PC) (at_ : Nat) (s : PSt) : Prop where
  mem : CMem w base c b mp n L (.slice pA m.pool.length pc) (.slice cA n cc) v5 f cs C
  ncode : n = m.code.length
  n_ : n ≤ 1000
  st : C.at_[at_]? = some (some s)
  ok : CodeOk m
  L_ : L ≤ 100000
  wk_ : C.work.length ≤ 10000
  trl : s.tries.length ≤ 900
  ht : 0 ≤ s.height ∧ s.height ≤ 1000
  of_ : -1 ≤ s.of ∧ s.of ≤ 100000000
  hh0 : 0 ≤ C.has s.of
  pl : Rd (TT w c b mp v5) w pA (m.pool.flatMap cstv)
  cd : Rd (TT w c b mp v5) w cA (m.code.flatMap insv)
  pn : m.pool.length ≤ 100000
  px : ∀ x ∈ m.pool, x.text.size ≤ 9223372036854775807
  lay : Lay w
  base_ : 3 ≤ base
theorem DoIn.new {w W : World} {base c b mp n L : Nat} {m : Im} {pA cA : Option Addr} {pc cc : Nat} {v5 : Value} {f : I64 → Option Int} {cs : Array Value} {C : PC} {at_ : Nat} {s : PSt} (h : DoIn w base c b mp n L m pA cA pc cc v5 f cs C at_ s) {k : Nat} (h1 : w.heap.size ≤ k) (h2 : k < W.heap.size) : TT W c b mp v5 k := by
  have hm := h.mem
  refine ⟨h2, fun e => ?_, fun e => ?_, fun e => ?_, fun e => ?_⟩
  · have := hm.ck.lt; omega
  · have := hm.ats.blk.lt; omega
  · obtain ⟨N, _, hmm⟩ := hm.mp_; have := hmm.lt; omega
  · have := (hm.wk.lt _ e).2; omega
theorem DoIn.st_ {w W : World} {base c b mp n L : Nat} {m : Im} {pA cA : Option Addr} {pc cc : Nat} {v5 : Value} {f : I64 → Option Int} {cs : Array Value} {C : PC} {at_ : Nat} {s : PSt} (h : DoIn w base c b mp n L m pA cA pc cc v5 f cs C at_ s) (hc : Chg (fun _ => False) w W) {tv : Value} (htv : RdI (TT w c b mp v5) w tv s.tries) {cb ib sb fb : Nat} (hcb : w.heap.size ≤ cb) (hib : w.heap.size ≤ ib) (hsb : w.heap.size ≤ sb) (hfb : w.heap.size ≤ fb)
    (kcb : Blk W cb 64 #[.pointer (some ⟨c, 0, none⟩)]) (kib : Blk W ib 42 #[.int .i64 (insAt m at_).op, .int .i64 (insAt m at_).a, .int .i64 (insAt m at_).b]) (ksb : Blk W sb 49 #[.int .i64 s.of, .int .i64 s.height, tv, .bool true]) (kfb : Blk W fb 3 #[.int .i64 (floorT s.tries)]) :
    DoSt W base c b mp n L m pA cA pc cc v5 f cs C at_ s tv cb ib sb fb := by
  have hz := hc.size
  refine ⟨h.mem.old hc, h.ncode, h.n_, ?_, h.ok, h.L_, h.wk_, kcb, kib, ksb, kfb, h.new hcb kcb.lt, h.new hib kib.lt, h.new hsb ksb.lt, h.new hfb kfb.lt, (htv.chg hc (fun _ _ _ => id)).mono (fun t ht => ht.old hz), h.trl, h.ht, h.of_, (h.pl.chg hc (fun _ _ _ => id)).mono (fun t ht => ht.old hz), h.pn, h.px, h.lay.chg hc (fun _ _ => id), h.base_⟩
  have := lt_of_some h.st
  rw [h.mem.len] at this
  exact this
theorem do_any_e {w : World} {base c b mp n L : Nat} {m : Im} {pA cA : Option Addr} {pc cc : Nat} {v5 : Value} {f : I64 → Option Int} {cs : Array Value} {C : PC} {at_ : Nat} {s : PSt} (h : DoIn w base c b mp n L m pA cA pc cc v5 f cs C at_ s) (he : s.tries = []) :
    Calls Tryd.prog 33 #[.pointer (some ⟨c, 0, none⟩), .int .i64 (at_ : Int)] w fun e w' => e = .returned (.tuple #[]) ∧ COut w w' base c b mp n (L + 1) (.slice pA m.pool.length pc) (.slice cA n cc) v5 (C.act conB m at_ s) := by
  obtain ⟨tv, z0, z1, z2, z3, htr⟩ := h.mem.ats.at_ _ _ h.st
  have hat : at_ < n := by
    have := lt_of_some h.st
    rw [h.mem.len] at this
    exact this
  have hnc := h.ncode
  obtain ⟨bb, oo, hcA, _, hcd⟩ := code_at h.cd (by intro e; rw [e] at hnc; simp at hnc; omega)
  have hins : m.code[at_]? = some (insAt m at_) := by
    unfold insAt
    rw [List.getD_eq_getElem?_getD, List.getElem?_eq_getElem (by omega)]
    rfl
  obtain ⟨i0, i1, i2⟩ := hcd at_ _ hins
  have y0 := h.mem.ats.blk.cell' z0
  have y1 := h.mem.ats.blk.cell' z1
  have y2 := h.mem.ats.blk.cell' z2
  have y3 := h.mem.ats.blk.cell' z3
  have x1 := h.mem.ck.cell 1
  have x2 := h.mem.ck.cell 2
  simp only [List.getElem?_toArray, List.getElem?_cons_zero, List.getElem?_cons_succ] at x1 x2
  rw [hcA] at x1
  have hn := h.n_
  have hsz := h.mem.ats.sz
  have hlen := h.mem.len
  have hbl := h.mem.ats.blk.lt
  have hcl := h.mem.ck.lt
  obtain ⟨tA, tcp, htv⟩ := htr.val
  rw [htv] at y2
  have b1 := Blk.new w 64 #[.pointer (some ⟨c, 0, none⟩)]
  have c1 := (Chg.refl (fun _ => False) w).alloc (.cells #[.pointer (some ⟨c, 0, none⟩)] 64)
  have hz1 : (w.alloc (.cells #[.pointer (some ⟨c, 0, none⟩)] 64)).heap.size = w.heap.size + 1 := size_alloc _ _
  have x0 := b1.cell 0
  simp only [List.getElem?_toArray, List.getElem?_cons_zero] at x0
  have w0 := (c1.cell (p := ⟨bb, oo + at_ * 3, none⟩) (hat_lt i0) id).trans i0
  have w1 := (c1.cell (p := ⟨bb, oo + at_ * 3 + 1, none⟩) (hat_lt i1) id).trans i1
  have w2 := (c1.cell (p := ⟨bb, oo + at_ * 3 + 2, none⟩) (hat_lt i2) id).trans i2
  have v0 := (c1.cell (p := ⟨b, at_ * 4, none⟩) (hat_lt y0) id).trans y0
  have v1 := (c1.cell (p := ⟨b, at_ * 4 + 1, none⟩) (hat_lt y1) id).trans y1
  have v2 := (c1.cell (p := ⟨b, at_ * 4 + 2, none⟩) (hat_lt y2) id).trans y2
  have v3 := (c1.cell (p := ⟨b, at_ * 4 + 3, none⟩) (hat_lt y3) id).trans y3
  have u1 := (c1.cell (p := ⟨c, 1, none⟩) hcl id).trans x1
  have u2 := (c1.cell (p := ⟨c, 2, none⟩) hcl id).trans x2
  have H := hide h
  have HB := hide b1
  have HC := hide c1
  have HZ := hide hz1
  have HTR := hide htr
  have HTV := hide htv
  have HE := hide he
  have HNC := hide hnc
  have HCA := hide hcA
  have HSZ := hide hsz
  have hatC : (at_ : Int) < (C.at_.length : Int) := by omega
  have HLEN := hide hlen
  clear h z0 z1 z2 z3 htr hnc hcA hcd hins i0 i1 i2 y0 y1 y2 y3 x1 x2 hsz hlen htv b1 c1 he hatC hz1
  generalize hop : (insAt m at_).op = op at *
  generalize hia : (insAt m at_).a = ia at *
  generalize hib : (insAt m at_).b = ib at *
  have HOP := hide hop
  have HIA := hide hia
  have HIB := hide hib
  clear hop hia hib
  go_enter Tryd.func33, Tryd.ntmps33
  go_upto_region 1 with fail
  generalize w.alloc (.cells #[.pointer (some ⟨c, 0, none⟩)] 64) = W1 at *
  refine wp_region_noPanic ?_
  go_region_held3 (fun W' => W'.cell? ⟨w.heap.size, 0, none⟩ = some (.pointer (some ⟨c, 0, none⟩)) ∧ W'.cell? ⟨c, 1, none⟩ = some (.slice (some ⟨bb, oo, none⟩) n cc) ∧ W'.cell? ⟨c, 2, none⟩ = some (.slice (some ⟨b, 0, none⟩) n n) ∧ W'.cell? ⟨bb, oo + at_ * 3, none⟩ = some (.int .i64 op) ∧ W'.cell? ⟨bb, oo + at_ * 3 + 1, none⟩ = some (.int .i64 ia) ∧ W'.cell? ⟨bb, oo + at_ * 3 + 2, none⟩ = some (.int .i64 ib) ∧ W'.cell? ⟨b, at_ * 4, none⟩ = some (.int .i64 s.of) ∧ W'.cell? ⟨b, at_ * 4 + 1, none⟩ = some (.int .i64 s.height) ∧ W'.cell? ⟨b, at_ * 4 + 2, none⟩ = some (.slice tA s.tries.length tcp) ∧ W'.cell? ⟨b, at_ * 4 + 3, none⟩ = some (.bool true)) (go_keep) (fail)
  · refine NoPanic.normal ?_
    try dsimp only
    have hzz := unhide HZ
    have kib : Blk ((W1.alloc (.cells #[.int .i64 op, .int .i64 ia, .int .i64 ib] 42)).alloc (.cells #[.int .i64 s.of, .int .i64 s.height, .slice tA s.tries.length tcp, .bool true] 49)).drew W1.heap.size 42 #[.int .i64 op, .int .i64 ia, .int .i64 ib] := (Blk.new W1 42 #[.int .i64 op, .int .i64 ia, .int .i64 ib]).alloc _
    have ksb : Blk ((W1.alloc (.cells #[.int .i64 op, .int .i64 ia, .int .i64 ib] 42)).alloc (.cells #[.int .i64 s.of, .int .i64 s.height, .slice tA s.tries.length tcp, .bool true] 49)).drew (W1.heap.size + 1) 49 #[.int .i64 s.of, .int .i64 s.height, .slice tA s.tries.length tcp, .bool true] := Blk.drew (Blk.new_at _ _ _ _ (by simp))
    have c2 : Chg (fun _ => False) W1 ((W1.alloc (.cells #[.int .i64 op, .int .i64 ia, .int .i64 ib] 42)).alloc (.cells #[.int .i64 s.of, .int .i64 s.height, .slice tA s.tries.length tcp, .bool true] 49)).drew := (((Chg.refl _ W1).alloc _).alloc _).drew
    generalize ((W1.alloc (.cells #[.int .i64 op, .int .i64 ia, .int .i64 ib] 42)).alloc (.cells #[.int .i64 s.of, .int .i64 s.height, .slice tA s.tries.length tcp, .bool true] 49)).drew = W2 at *
    generalize hib : W1.heap.size = ib_ at *
    generalize hsb : ib_ + 1 = sb_ at *
    have gib : w.heap.size ≤ ib_ := by omega
    have gsb : w.heap.size ≤ sb_ := by omega
    have c3 := (unhide HC).trans' c2
    have kcb := (unhide HB).chg c2 id
    have gfb : w.heap.size ≤ W2.heap.size := c3.size
    have c4 := c3.alloc (.cells #[.int .i64 (floorT s.tries)] 3)
    have kfb := Blk.new W2 3 #[.int .i64 (floorT s.tries)]
    have a1 := (Chg.refl (fun _ => False) W2).alloc (.cells #[.int .i64 (floorT s.tries)] 3)
    have kib2 := kib.chg a1 id
    have ksb2 := ksb.chg a1 id
    have kcb2 := kcb.chg a1 id
    rw [← unhide HOP, ← unhide HIA, ← unhide HIB] at kib2
    rw [← unhide HTV] at ksb2
    have HST := hide ((unhide H).st_ c4 (unhide HTR) (Nat.le_refl _) gib gsb gfb kcb2 kib2 ksb2 kfb)
    have HC4 := hide c4
    have i0 := kib.cell 0
    have s0 := ksb.cell 0
    have s1 := ksb.cell 1
    have s2 := ksb.cell 2
    have il := kib.lt
    have sl := ksb.lt
    simp only [List.getElem?_toArray, List.getElem?_cons_zero, List.getElem?_cons_succ] at i0 s0 s1 s2
    have hl0 : decide ((0 : Int) < (s.tries.length : Int)) = false := by rw [unhide HE]; rfl
    have hl1 : decide (0 < s.tries.length) = false := by rw [unhide HE]; rfl
    have hfz : floorT s.tries = 0 := by rw [unhide HE]; rfl
    rw [hfz] at HC4 HST
    clear hfz
    clear kib ksb c2 kcb c4 kfb a1 kib2 ksb2 kcb2 hzz c3 hib hsb
    go_upto_block 0 with fail
    have hop := unhide HOP
    subst hop
    refine do_all _ _ _ _ _ _ _ _ _ _ _ _ _ _ _ _ _ _ _ _ _ _ _ _ _ _ _ _ _ _ _ _ _ _ _ _ _ _ _ _ _ _ _ _ _ _ _ _ _ _ _ _ _ _ _ _ _ _ _ _ _ _ _ _ _ _ _ _ _ _ _ _ _ _ _ _ _ _ _ _ _ _ _ _ _ _ _ _ _ _ _ _ _ _ _ _ _ _ _ _ _ _ _ _ _ _ _ _ _ _ _ _ _ _ _ _ _ _ _ _ _ _ _ _ _ _ _ _ _ _ _ _ _ _ _ _ _ _ _ _ _ _ _ _ _ _ _ _ _ _ _ _ _ _ _ _ _ _ _ _ _ _ _ _ _ _ _ _ _ _ _ _ _ _ _ _ _ _ _ _ _ _ _ _ _ _ _ _ _ _ _ _ _ _ _ _ _ _ _ _ _ _ _ _ _ _ _ _ _ _ _ _ _ _ _ _ _ _ _ _ _ _ _ _ _ _ _ _ _ _ _ _ _ _ _ _ _ _ _ _ _ _ _ _ _ _ _ _ _ _ _ _ _ _ _ _ _ _ _ _ _ _ _ _ _ _ _ _ _ _ _ _ _ _ _ _ _ _ _ _ _ _ _ _ _ _ _ _ _ _ _ _ _ _ _ _ _ _ _ _ _ _ _ _ _ _ _ _ _ _ _ _ _ base c b mp n L m pA cA pc cc v5 f cs C at_ s tv _ _ _ _ (unhide HST) w (unhide H).mem (unhide HC4) gsb gfb (unhide H).hh0 _ ?_
    intro tmps w3 hco
    have HCO := hide hco
    clear hco
    go_wp2_with fail
    go_end0
    exact ⟨rfl, unhide HCO⟩
  · refine NoPanic.normal ?_
    try dsimp only
    have hzz := unhide HZ
    have ksb : Blk ((W1.alloc (.cells #[.int .i64 s.of, .int .i64 s.height, .slice tA s.tries.length tcp, .bool true] 49)).alloc (.cells #[.int .i64 op, .int .i64 ia, .int .i64 ib] 42)).drew W1.heap.size 49 #[.int .i64 s.of, .int .i64 s.height, .slice tA s.tries.length tcp, .bool true] := (Blk.new W1 49 #[.int .i64 s.of, .int .i64 s.height, .slice tA s.tries.length tcp, .bool true]).alloc _
    have kib : Blk ((W1.alloc (.cells #[.int .i64 s.of, .int .i64 s.height, .slice tA s.tries.length tcp, .bool true] 49)).alloc (.cells #[.int .i64 op, .int .i64 ia, .int .i64 ib] 42)).drew (W1.heap.size + 1) 42 #[.int .i64 op, .int .i64 ia, .int .i64 ib] := Blk.drew (Blk.new_at _ _ _ _ (by simp))
    have c2 : Chg (fun _ => False) W1 ((W1.alloc (.cells #[.int .i64 s.of, .int .i64 s.height, .slice tA s.tries.length tcp, .bool true] 49)).alloc (.cells #[.int .i64 op, .int .i64 ia, .int .i64 ib] 42)).drew := (((Chg.refl _ W1).alloc _).alloc _).drew
    generalize ((W1.alloc (.cells #[.int .i64 s.of, .int .i64 s.height, .slice tA s.tries.length tcp, .bool true] 49)).alloc (.cells #[.int .i64 op, .int .i64 ia, .int .i64 ib] 42)).drew = W2 at *
    generalize hsb : W1.heap.size = sb_ at *
    generalize hib : sb_ + 1 = ib_ at *
    have gib : w.heap.size ≤ ib_ := by omega
    have gsb : w.heap.size ≤ sb_ := by omega
    have c3 := (unhide HC).trans' c2
    have kcb := (unhide HB).chg c2 id
    have gfb : w.heap.size ≤ W2.heap.size := c3.size
    have c4 := c3.alloc (.cells #[.int .i64 (floorT s.tries)] 3)
    have kfb := Blk.new W2 3 #[.int .i64 (floorT s.tries)]
    have a1 := (Chg.refl (fun _ => False) W2).alloc (.cells #[.int .i64 (floorT s.tries)] 3)
    have kib2 := kib.chg a1 id
    have ksb2 := ksb.chg a1 id
    have kcb2 := kcb.chg a1 id
    rw [← unhide HOP, ← unhide HIA, ← unhide HIB] at kib2
    rw [← unhide HTV] at ksb2
    have HST := hide ((unhide H).st_ c4 (unhide HTR) (Nat.le_refl _) gib gsb gfb kcb2 kib2 ksb2 kfb)
    have HC4 := hide c4
    have i0 := kib.cell 0
    have s0 := ksb.cell 0
    have s1 := ksb.cell 1
    have s2 := ksb.cell 2
    have il := kib.lt
    have sl := ksb.lt
    simp only [List.getElem?_toArray, List.getElem?_cons_zero, List.getElem?_cons_succ] at i0 s0 s1 s2
    have hl0 : decide ((0 : Int) < (s.tries.length : Int)) = false := by rw [unhide HE]; rfl
    have hl1 : decide (0 < s.tries.length) = false := by rw [unhide HE]; rfl
    have hfz : floorT s.tries = 0 := by rw [unhide HE]; rfl
    rw [hfz] at HC4 HST
    clear hfz
    clear kib ksb c2 kcb c4 kfb a1 kib2 ksb2 kcb2 hzz c3 hib hsb
    go_upto_block 0 with fail
    have hop := unhide HOP
    subst hop
    refine do_all _ _ _ _ _ _ _ _ _ _ _ _ _ _ _ _ _ _ _ _ _ _ _ _ _ _ _ _ _ _ _ _ _ _ _ _ _ _ _ _ _ _ _ _ _ _ _ _ _ _ _ _ _ _ _ _ _ _ _ _ _ _ _ _ _ _ _ _ _ _ _ _ _ _ _ _ _ _ _ _ _ _ _ _ _ _ _ _ _ _ _ _ _ _ _ _ _ _ _ _ _ _ _ _ _ _ _ _ _ _ _ _ _ _ _ _ _ _ _ _ _ _ _ _ _ _ _ _ _ _ _ _ _ _ _ _ _ _ _ _ _ _ _ _ _ _ _ _ _ _ _ _ _ _ _ _ _ _ _ _ _ _ _ _ _ _ _ _ _ _ _ _ _ _ _ _ _ _ _ _ _ _ _ _ _ _ _ _ _ _ _ _ _ _ _ _ _ _ _ _ _ _ _ _ _ _ _ _ _ _ _ _ _ _ _ _ _ _ _ _ _ _ _ _ _ _ _ _ _ _ _ _ _ _ _ _ _ _ _ _ _ _ _ _ _ _ _ _ _ _ _ _ _ _ _ _ _ _ _ _ _ _ _ _ _ _ _ _ _ _ _ _ _ _ _ _ _ _ _ _ _ _ _ _ _ _ _ _ _ _ _ _ _ _ _ _ _ _ _ _ _ _ _ _ _ _ _ _ _ _ _ _ _ base c b mp n L m pA cA pc cc v5 f cs C at_ s tv _ _ _ _ (unhide HST) w (unhide H).mem (unhide HC4) gsb gfb (unhide H).hh0 _ ?_
    intro tmps w3 hco
    have HCO := hide hco
    clear hco
    go_wp2_with fail
    go_end0
    exact ⟨rfl, unhide HCO⟩
end Go.Proofs.YtejkaalhjocmgaaDoor
