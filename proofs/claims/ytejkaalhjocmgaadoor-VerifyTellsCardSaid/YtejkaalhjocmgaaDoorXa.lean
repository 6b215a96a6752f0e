/-
  Layer 19: where an instruction is done: 14, a try open.
-/
import Derived.Test.YtejkaalhjocmgaaDoorWz
namespace Go.Proofs.YtejkaalhjocmgaaDoor
open Go.RowKit
set_option maxHeartbeats 1000000
set_option maxRecDepth 1000000
set_option maxHeartbeats 400000
theorem step_old_any {w0 W : World} {base c b mp n L : Nat} {m : Im} {pA cA : Option Addr} {pc cc : Nat} {v5 : Value} {f : I64 → Option Int} {cs : Array Value} {C : PC} (hm0 : CMem w0 base c b mp n L (.slice pA m.pool.length pc) (.slice cA n cc) v5 f cs C) (hW : Chg (fun _ => False) w0 W) (s : PSt) (l : List Int) (g cp sb fb cb k : Nat) (hg : w0.heap.size ≤ g) (hgl : g < W.heap.size) (hr : Rd (· = g) W (some ⟨g, 0, none⟩) (l.map intl)) (hsb : Blk W sb 49 #[.int .i64 s.of, .int .i64 s.height, .slice (some ⟨g, 0, none⟩) l.length cp, .bool true]) (hfb : Blk W fb 3 #[.int .i64 0]) (hcb : Blk W cb 64 #[.pointer (some ⟨c, 0, none⟩)]) (hcT : TT W c b mp v5 cb) (hh : 0 ≤ s.height ∧ s.height ≤ 1000) (hl : l.length ≤ 900) (hk : k ≤ 100000) (hn : n ≤ 1000) (hwk : C.work.length ≤ 10000) :
    Calls Tryd.prog 45 #[.int .i64 0, .int .i64 0, .bool true, .slice (some ⟨W.heap.size, 0, none⟩) 1 1, .pointer (some ⟨sb, 0, none⟩), .pointer (some ⟨fb, 0, none⟩), .pointer (some ⟨cb, 0, none⟩)] (W.alloc (.cells ([k].map (fun t : Nat => intl (t : Int))).toArray 3)) fun e w' => e = .returned (.tuple #[]) ∧ COut w0 w' base c b mp n L (.slice pA m.pool.length pc) (.slice cA n cc) v5 (C.step n ⟨s.of, s.height, l⟩ 0 0 0 true [k]) := by
  have hA : Chg (fun _ => False) W (W.alloc (.cells ([k].map (fun t : Nat => intl (t : Int))).toArray 3)) := (Chg.refl _ W).alloc _
  have hWA := hW.trans' hA
  have hm := hm0.old hWA
  have hz := hWA.size
  refine (step_in_any hm ⟨s.of, s.height, l⟩ (.slice (some ⟨g, 0, none⟩) l.length cp) true 0 0 0 [k] (some ⟨W.heap.size, 0, none⟩) 1 sb fb cb (hsb.chg hA id) (hfb.chg hA id) (hcb.chg hA id) (by dsimp only; omega) (by dsimp only; omega) (tos_new hm0 [k] (by simp) W hW) (by simp; omega) (by simp) (hcT.old hA.size) ⟨_, _, rfl, (hr.chg hA (fun _ _ _ => id)).mono (fun t ht => ?_)⟩ (by dsimp only; omega) (by omega) (by simp; omega)).mono (fun e w' hh => ⟨hh.1, hh.2.pre hWA⟩)
  obtain rfl : t = g := ht
  refine ⟨by rw [size_alloc]; omega, fun e => ?_, fun e => ?_, fun e => ?_, fun e => ?_⟩
  · have := hm0.ck.lt; omega
  · have := hm0.ats.blk.lt; omega
  · obtain ⟨N, _, hmm⟩ := hm0.mp_; have := hmm.lt; omega
  · have := (hm0.wk.lt _ e).2; omega
theorem step_14 {w0 w w2 : World} {base c b mp n L : Nat} {m : Im} {pA cA : Option Addr} {pc cc : Nat} {v5 : Value} {f : I64 → Option Int} {cs : Array Value} {C : PC} {at_ : Nat} {s : PSt} {tv : Value} {cb ib sb fb : Nat} (h : DoSt w base c b mp n L m pA cA pc cc v5 f cs C at_ s tv cb ib sb fb) (hm0 : CMem w0 base c b mp n L (.slice pA m.pool.length pc) (.slice cA n cc) v5 f cs C) (hc0 : Chg (fun _ => False) w0 w) (hsb0 : w0.heap.size ≤ sb) (hfb0 : w0.heap.size ≤ fb) (hch : Chg (fun _ => False) w w2) {g cp : Nat} (hg1 : w.heap.size ≤ g) (hg2 : g < w2.heap.size) (hrd : Rd (· = g) w2 (some ⟨g, 0, none⟩) (s.tries.map intl)) :
    Calls Tryd.prog 45 #[.int .i64 0, .int .i64 0, .bool true, .slice (some ⟨w2.heap.size, 0, none⟩) 1 1, .pointer (some ⟨sb, 0, none⟩), .pointer (some ⟨fb, 0, none⟩), .pointer (some ⟨cb, 0, none⟩)] ((((w2.setCell ⟨fb, 0, none⟩ (.int .i64 0)).setCell ⟨sb, 2, none⟩ (.slice (some ⟨g, 0, none⟩) s.tries.length cp)).setCell ⟨sb, 2, none⟩ (.slice (some ⟨g, 0, none⟩) (s.tries.length - 1) cp)).alloc (.cells #[.int .i64 ((at_ : Int) + 1)] 3)) fun e w' => e = .returned (.tuple #[]) ∧ COut w0 w' base c b mp n L (.slice pA m.pool.length pc) (.slice cA n cc) v5 (C.step n ⟨s.of, s.height, s.tries.dropLast⟩ 0 0 0 true [at_ + 1]) := by
  obtain ⟨k1, k2, k3, k4⟩ := h.keeps hch
  have k5 := h.fbB.chg hch id
  have nsf := Blk.ne_ k4 k5 (by decide)
  have ncs := Blk.ne_ k2 k4 (by decide)
  have ncf := Blk.ne_ k2 k5 (by decide)
  have hsl := h.sbB.lt
  have hfl := h.fbB.lt
  have hS : Chg (fun k => k = fb ∨ k = sb) w2 (((w2.setCell ⟨fb, 0, none⟩ (.int .i64 0)).setCell ⟨sb, 2, none⟩ (.slice (some ⟨g, 0, none⟩) s.tries.length cp)).setCell ⟨sb, 2, none⟩ (.slice (some ⟨g, 0, none⟩) (s.tries.length - 1) cp)) := (((Chg.refl _ w2).setCell (fun _ => .inl rfl) _).setCell (fun _ => .inr rfl) _).setCell (fun _ => .inr rfl) _
  have hW := (((hc0.trans' hch).setCell (p := ⟨fb, 0, none⟩) (fun hlt => absurd hlt (Nat.not_lt.2 hfb0)) (.int .i64 0)).setCell (p := ⟨sb, 2, none⟩) (fun hlt => absurd hlt (Nat.not_lt.2 hsb0)) (.slice (some ⟨g, 0, none⟩) s.tries.length cp)).setCell (p := ⟨sb, 2, none⟩) (fun hlt => absurd hlt (Nat.not_lt.2 hsb0)) (.slice (some ⟨g, 0, none⟩) (s.tries.length - 1) cp)
  have hdl : s.tries.dropLast.length = s.tries.length - 1 := by simp
  have hn := h.n_
  have hat := h.at_lt
  have htr := h.trl
  have hwk := h.wk_
  have hz := hS.size
  have hz0 := hc0.size
  have a1 : Rd (· = g) (((w2.setCell ⟨fb, 0, none⟩ (.int .i64 0)).setCell ⟨sb, 2, none⟩ (.slice (some ⟨g, 0, none⟩) s.tries.length cp)).setCell ⟨sb, 2, none⟩ (.slice (some ⟨g, 0, none⟩) (s.tries.length - 1) cp)) (some ⟨g, 0, none⟩) (s.tries.dropLast.map intl) := hrd.dropLast.chg hS (fun k hk _ e => by rcases e with e | e <;> omega)
  have a2 : Blk (((w2.setCell ⟨fb, 0, none⟩ (.int .i64 0)).setCell ⟨sb, 2, none⟩ (.slice (some ⟨g, 0, none⟩) s.tries.length cp)).setCell ⟨sb, 2, none⟩ (.slice (some ⟨g, 0, none⟩) (s.tries.length - 1) cp)) sb 49 #[.int .i64 s.of, .int .i64 s.height, .slice (some ⟨g, 0, none⟩) (s.tries.length - 1) cp, .bool true] := ((k4.far nsf _).set_ 2 _).set_ 2 _
  have a3 : Blk (((w2.setCell ⟨fb, 0, none⟩ (.int .i64 0)).setCell ⟨sb, 2, none⟩ (.slice (some ⟨g, 0, none⟩) s.tries.length cp)).setCell ⟨sb, 2, none⟩ (.slice (some ⟨g, 0, none⟩) (s.tries.length - 1) cp)) fb 3 #[.int .i64 0] := ((k5.set_ 0 _).far (Ne.symm nsf) _).far (Ne.symm nsf) _
  have a4 : Blk (((w2.setCell ⟨fb, 0, none⟩ (.int .i64 0)).setCell ⟨sb, 2, none⟩ (.slice (some ⟨g, 0, none⟩) s.tries.length cp)).setCell ⟨sb, 2, none⟩ (.slice (some ⟨g, 0, none⟩) (s.tries.length - 1) cp)) cb 64 #[.pointer (some ⟨c, 0, none⟩)] := ((k2.far ncf _).far ncs _).far ncs _
  have r := step_old_any (m := m) hm0 hW s s.tries.dropLast g cp sb fb cb (at_ + 1) (by omega) (by omega) a1 (by rw [hdl]; exact a2) a3 a4 ((h.cbT.old hch.size).old hz) h.ht (by rw [hdl]; omega) (by omega) hn hwk
  have e1 : ((at_ : Int) + 1) = ((at_ + 1 : Nat) : Int) := by omega
  rw [e1]
  simp only [size_set] at r
  exact r
end Go.Proofs.YtejkaalhjocmgaaDoor
