/-
  Layer 19: how things stand everywhere: the walk.
-/
import Derived.Test.YtejkaalhjocmgaaDoorXf
import Derived.Test.YtejkaalhjocmgaaDoorYa
import Derived.Test.YtejkaalhjocmgaaDoorYb
namespace Go.Proofs.YtejkaalhjocmgaaDoor
open Go.RowKit
set_option maxHeartbeats 1000000
set_option maxRecDepth 100000
theorem do_any {w : World} {base c b mp n L : Nat} {m : Im} {pA cA : Option Addr} {pc cc : Nat} {v5 : Value} {f : I64 → Option Int} {cs : Array Value} {C : PC} {at_ : Nat} {s : PSt} (h : DoIn w base c b mp n L m pA cA pc cc v5 f cs C at_ s) :
    Calls Tryd.prog 33 #[.pointer (some ⟨c, 0, none⟩), .int .i64 (at_ : Int)] w fun e w' => e = .returned (.tuple #[]) ∧ COut w w' base c b mp n (L + 1) (.slice pA m.pool.length pc) (.slice cA n cc) v5 (C.act conB m at_ s) := by
  by_cases he : s.tries = []
  · exact do_any_e h he
  · exact do_any_n h he
/-- What comes of it. -/
def CheckOut (m : Im) (w : World) (e : Ending) (w' : World) : Prop := ∃ (b : Nat) (cs : Array Value) (C : PC), e = .returned (.tuple #[.slice (some ⟨b, 0, none⟩) m.code.length m.code.length, .bool (!C.bad)]) ∧ w.heap.size ≤ b ∧ Chg (fun _ => False) w w' ∧
  ((C.bad = true ∧ ¬ Good conB m) ∨ (C.bad = false ∧ Good conB m ∧ AtRep (fun _ => True) w' b cs C.at_ ∧ C.at_.length = m.code.length ∧ (∀ (k : Nat) (p : PSt), C.at_[k]? = some (some p) → 0 ≤ p.height ∧ p.height ≤ 1000 ∧ -1 ≤ p.of ∧ p.of ≤ 100000000) ∧ ∀ (k : Nat) (s : RSt), Reach conB m k s ↔ ∃ p, C.at_[k]? = some (some p) ∧ lift C.has p = s))
theorem info49 : (Tryd.prog.info? 49).map (fun i => (i.zero, i.size, i.bytes)) = some (some (.agg #[.int .i64 0, .int .i64 0, .slice none 0 0, .bool false]), 4, 48) := by kernel_rfl
theorem made49_at (n k j : Nat) (hk : k < n) (hj : j < 4) : (madeCells #[.int .i64 0, .int .i64 0, .slice none 0 0, .bool false] (n * 4))[k * 4 + j]? = zero4[j]? := by
  unfold madeCells
  rw [Array.getElem?_map, Array.getElem?_range]
  rw [if_pos (by omega)]
  have : (k * 4 + j) % 4 = j := by omega
  simp only [Option.map_some, List.size_toArray, List.length_cons, List.length_nil, Nat.zero_add, Nat.reduceAdd, this]
  match j, hj with
  | 0, _ => rfl
  | 1, _ => rfl
  | 2, _ => rfl
  | 3, _ => rfl
theorem CMem.zero {W : World} {base b c mp n : Nat} {pv cv : Value} {zc : Array Value} (kb : Blk W b 49 zc) (hz : zc.size = n * 4) (hzc : ∀ k j, k < n → j < 4 → zc[k * 4 + j]? = zero4[j]?) (kc : Blk W c 67 #[pv, cv, .slice (some ⟨b, 0, none⟩) n n, .map (some mp), .slice none 0 0, .bool false]) (km : MapK Tryd.prog 3 3 .i64 ikey W mp 0 (fun _ => none)) (hb : base ≤ c ∧ base ≤ b ∧ base ≤ mp ∧ base ≤ W.heap.size) :
    CMem W base c b mp n 0 pv cv (.slice none 0 0) (fun _ => none) zc (PC.zero n) := by
  refine ⟨kc, ⟨kb, by rw [hz]; simp [PC.zero], fun k o hk => ?_⟩, by simp [PC.zero], ⟨0, Nat.le_refl _, km⟩, fun x => rfl, World.ownsRow_nil _ _ _ _, fun k p hk => ?_, hb⟩
  · unfold PC.zero at hk
    rw [List.getElem?_replicate] at hk
    split at hk
    · rename_i hkn
      injection hk with hk
      subst hk
      have h0 := hzc k 0 hkn (by omega)
      rw [Nat.add_zero] at h0
      exact ⟨h0, hzc k 1 hkn (by omega), hzc k 2 hkn (by omega), hzc k 3 hkn (by omega)⟩
    · cases hk
  · unfold PC.zero at hk
    rw [List.getElem?_replicate] at hk
    split at hk
    · injection hk with hk; cases hk
    · cases hk
/-- What holds while the checker goes on. -/
def Chk (m : Im) (w : World) (pA cA : Option Addr) (pc cc c b mp gk : Nat) (wr : World) : Prop := ∃ (C : PC) (L : Nat) (A5 : Option Addr) (c5 : Nat) (f : I64 → Option Int) (cs : Array Value),
  CMem wr w.heap.size c b mp m.code.length L (.slice pA m.pool.length pc) (.slice cA m.code.length cc) (.slice A5 C.work.length c5) f cs C ∧ Chg (fun k => w.heap.size ≤ k) w wr ∧ C.at_.length = m.code.length ∧ mu m.code.length C ≤ gk ∧ L + mu m.code.length C ≤ 2 * m.code.length ∧ ((C.bad = true ∧ ¬ Good conB m) ∨ PInv conB m C (fun _ => False))
theorem COut.far {wr w' : World} {base c b mp n L : Nat} {pv cv v5 : Value} {f : I64 → Option Int} {cs : Array Value} {C C' : PC} (h : CMem wr base c b mp n L pv cv v5 f cs C) (ho : COut wr w' base c b mp n L pv cv v5 C') : Chg (fun k => base ≤ k) wr w' := by
  obtain ⟨_, _, _, _, hc, _⟩ := ho
  have hb := h.base_
  refine hc.mono (fun i hi e => ?_)
  rcases e with e | e | e | e
  · omega
  · omega
  · omega
  · exact (h.wk.lt _ e).1
theorem chk_begin {m : Im} {w W : World} {pA cA : Option Addr} {pc cc c b mp : Nat} {cs : Array Value} (hm : CMem W w.heap.size c b mp m.code.length 0 (.slice pA m.pool.length pc) (.slice cA m.code.length cc) (.slice none 0 0) (fun _ => none) cs (PC.zero m.code.length)) (hc : Chg (fun _ => False) w W) (hn : m.code.length ≤ 1000) :
    Calls Tryd.prog 32 #[.pointer (some ⟨c, 0, none⟩), .int .i64 0, .agg #[.int .i64 (-1), .int .i64 0, .slice none 0 0, .bool false]] W fun e w' => e = .returned (.tuple #[]) ∧ Chk m w pA cA pc cc c b mp (2 * m.code.length) w' := by
  refine (come_any hm 0 ⟨-1, 0, []⟩ (.slice none 0 0) false (by omega) (by omega) (RdI.nil_ _ _) (Nat.zero_le _) (by simp [PC.zero])).mono (fun e w' hh => ⟨hh.1, ?_⟩)
  have hfar := hh.2.far hm
  obtain ⟨v5', f', cs', h1, h2, h3⟩ := hh.2
  obtain ⟨A5, c5, rfl⟩ := own_val h1.wk
  have hmu := come_mu (n := m.code.length) (C := PC.zero m.code.length) (by simp [PC.zero]) 0 ⟨-1, 0, []⟩
  rw [PC.zero_mu] at hmu
  refine ⟨_, 0, A5, c5, f', cs', h1, (hc.mono (fun _ _ h => h.elim)).trans hfar (fun _ _ h => h), hmu.1, hmu.2, by omega, ?_⟩
  rcases Nat.eq_zero_or_pos m.code.length with h0 | h0
  · exact .inl ⟨zero_bad h0, not_good_none h0⟩
  · exact .inr (PInv.zero h0)
theorem chk_do {m : Im} {w wr W : World} {pA cA : Option Addr} {pc cc c b mp L c5 at_ : Nat} {A5 : Option Addr} {f : I64 → Option Int} {cs : Array Value} {C : PC} (hm : CMem wr w.heap.size c b mp m.code.length L (.slice pA m.pool.length pc) (.slice cA m.code.length cc) (.slice A5 C.work.length c5) f cs C) (hc : Chg (fun k => w.heap.size ≤ k) w wr) (hat : C.at_.length = m.code.length) (hL : L + mu m.code.length C ≤ 2 * m.code.length) (hP : PInv conB m C (fun _ => False)) (hk : C.work.getLast? = some at_) (hW : Chg (fun _ => False) wr W)
    {T T2 : Nat → Prop} (hp : Rd T w pA (m.pool.flatMap cstv)) (hcd : Rd T2 w cA (m.code.flatMap insv)) (ok : CodeOk m) (hn : m.code.length ≤ 900) (pn : m.pool.length ≤ 100000) (px : ∀ x ∈ m.pool, x.text.size ≤ 9223372036854775807) (lay : Lay w) :
    Calls Tryd.prog 33 #[.pointer (some ⟨c, 0, none⟩), .int .i64 (at_ : Int)] (W.setCell ⟨c, 4, none⟩ (.slice A5 (C.work.length - 1) c5)) fun e w' => e = .returned (.tuple #[]) ∧ ∃ k, k < mu m.code.length C ∧ Chk m w pA cA pc cc c b mp k w' := by
  have hne : C.work ≠ [] := by rintro e; rw [e] at hk; cases hk
  have hpop := (hm.old hW).pop rfl hne
  have hPp := hP.pop hk
  have hmem : at_ ∈ C.work := by
    rw [List.getLast?_eq_some_getLast hne] at hk
    injection hk with hk
    rw [← hk]
    exact List.getLast_mem hne
  obtain ⟨s, hs⟩ := hP.wk _ hmem
  have hwf := hP.wf _ _ hs
  have hcnt := cnt_le C.at_
  have hc1 : Chg (fun k => w.heap.size ≤ k) w (W.setCell ⟨c, 4, none⟩ (.slice A5 (C.work.length - 1) c5)) := (hc.trans (S' := fun _ => False) hW (fun _ _ h => h.elim)).setCell (fun _ => by have := hm.base_; show w.heap.size ≤ c; omega) _
  have hsz := hc1.size
  have hmup := pop_mu (n := m.code.length) hne
  have hlen : C.work.length ≤ mu m.code.length C := Nat.le_add_left _ _
  have hTT : ∀ t, t < w.heap.size → TT (W.setCell ⟨c, 4, none⟩ (.slice A5 (C.work.length - 1) c5)) c b mp (.slice A5 (C.work.length - 1) c5) t := fun t ht => by
    have hb := hpop.base_
    refine ⟨by omega, by omega, by omega, by omega, fun e => ?_⟩
    have := (hpop.wk.lt _ e).1
    omega
  have hof : -1 ≤ s.of ∧ s.of ≤ 100000000 := by
    rcases (hP.reach _ _ hs).2 with e | e
    · omega
    · obtain ⟨h1, h2⟩ := hP.hasA _ e
      have := lt_of_some h2
      omega
  have hin : DoIn (W.setCell ⟨c, 4, none⟩ (.slice A5 (C.work.length - 1) c5)) w.heap.size c b mp m.code.length L m pA cA pc cc (.slice A5 (C.work.length - 1) c5) f cs C.pop at_ s := by
    refine ⟨hpop, rfl, by omega, hs, ok, by omega, ?_, by have := hwf.tl; omega, ⟨hwf.lo, by have := hwf.hi; omega⟩, hof, hP.has0 _, ((hp.old.chg hc1 (fun k hk hl e => by omega)).mono hTT), ((hcd.old.chg hc1 (fun k hk hl e => by omega)).mono hTT), pn, px, lay.chg hc1 (fun k hk e => by have := lay.sz; omega), lay.sz⟩
    show C.work.dropLast.length ≤ 10000
    rw [List.length_dropLast]
    omega
  refine (do_any hin).mono (fun e w' hh => ⟨hh.1, mu m.code.length (C.pop.act conB m at_ s), ?_, ?_⟩)
  · have := act_mu (con := conB) (m := m) (C := C.pop) hat at_ s
    omega
  · have ha := act_mu (con := conB) (m := m) (C := C.pop) hat at_ s
    have hin2 := hpop
    have hfar : Chg (fun k => w.heap.size ≤ k) (W.setCell ⟨c, 4, none⟩ (.slice A5 (C.work.length - 1) c5)) w' := by
      obtain ⟨_, _, _, _, h2, _⟩ := hh.2
      have hb := hpop.base_
      refine h2.mono (fun i hi e => ?_)
      rcases e with e | e | e | e
      · omega
      · omega
      · omega
      · exact (hpop.wk.lt _ e).1
    obtain ⟨v5', f', cs', h1, h2, h3⟩ := hh.2
    obtain ⟨A', c', rfl⟩ := own_val h1.wk
    exact ⟨_, L + 1, A', c', f', cs', h1, hc1.trans hfar (fun _ _ h => h), ha.1, Nat.le_refl _, by omega, act_ok ok hPp hs⟩
end Go.Proofs.YtejkaalhjocmgaaDoor
