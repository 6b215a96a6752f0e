/-
  Layer 19: the checker's memory; that things stand so ahead of an instruction.
-/
import Derived.Test.YtejkaalhjocmgaaDoorWk
import Derived.Deep.RegionHeld3
namespace Go.Proofs.YtejkaalhjocmgaaDoor
open Go.RowKit
set_option maxHeartbeats 1000000
set_option maxRecDepth 100000
/-- What a place of the states holds. -/
def StAt (T : Nat → Prop) (w : World) (cs : Array Value) (k : Nat) : Option PSt → Prop
  | none => cs[k * 4]? = some (.int .i64 0) ∧ cs[k * 4 + 1]? = some (.int .i64 0) ∧ cs[k * 4 + 2]? = some (.slice none 0 0) ∧ cs[k * 4 + 3]? = some (.bool false)
  | some p => ∃ tv, cs[k * 4]? = some (.int .i64 p.of) ∧ cs[k * 4 + 1]? = some (.int .i64 p.height) ∧ cs[k * 4 + 2]? = some tv ∧ cs[k * 4 + 3]? = some (.bool true) ∧ RdI T w tv p.tries
/-- The states. -/
structure AtRep (T : Nat → Prop) (w : World) (b : Nat) (cs : Array Value) (l : List (Option PSt)) : Prop where
  blk : Blk w b 49 cs
  sz : cs.size = l.length * 4
  at_ : ∀ k o, l[k]? = some o → StAt T w cs k o
section
variable {T T' S : Nat → Prop} {w w' : World} {b : Nat} {cs : Array Value} {l : List (Option PSt)}
theorem StAt.chg {k : Nat} {o : Option PSt} (h : StAt T w cs k o) (hc : Chg S w w') (hT : ∀ b, T b → b < w.heap.size → ¬ S b) (hm : ∀ b, T b → b < w'.heap.size → T' b) : StAt T' w' cs k o := by
  cases o with
  | none => exact h
  | some p =>
    obtain ⟨tv, h0, h1, h2, h3, h4⟩ := h
    refine ⟨tv, h0, h1, h2, h3, ?_⟩
    obtain ⟨A, c, e, h5⟩ := h4.chg hc hT
    refine ⟨A, c, e, fun hn => ?_⟩
    obtain ⟨ad, ha, ht, hh⟩ := h5 hn
    refine ⟨ad, ha, hm _ ht ?_, hh⟩
    have hl : 0 < (p.tries.map intl).length := by
      rcases Nat.eq_zero_or_pos (p.tries.map intl).length with h | h
      · exact absurd (List.length_eq_zero_iff.1 h) hn
      · exact h
    have := World.block_lt_of_cell? w' _ (hh 0 _ (List.getElem?_eq_getElem hl))
    rwa [block_of_add] at this
theorem AtRep.chg (h : AtRep T w b cs l) (hc : Chg S w w') (hb : ¬ S b) (hT : ∀ b, T b → b < w.heap.size → ¬ S b) (hm : ∀ b, T b → b < w'.heap.size → T' b) : AtRep T' w' b cs l :=
  ⟨h.blk.chg hc hb, h.sz, fun k o hk => (h.at_ k o hk).chg hc hT hm⟩
def set4 (cs : Array Value) (k : Nat) (v0 v1 v2 v3 : Value) : Array Value := (((cs.setIfInBounds (k * 4) v0).setIfInBounds (k * 4 + 1) v1).setIfInBounds (k * 4 + 2) v2).setIfInBounds (k * 4 + 3) v3
theorem set4_at (cs : Array Value) (k : Nat) (v0 v1 v2 v3 : Value) (i : Nat) (h : k * 4 + 3 < cs.size) : (set4 cs k v0 v1 v2 v3)[i]? = if i = k * 4 + 3 then some v3 else if i = k * 4 + 2 then some v2 else if i = k * 4 + 1 then some v1 else if i = k * 4 then some v0 else cs[i]? := by
  unfold set4
  simp only [Array.getElem?_setIfInBounds, Array.size_setIfInBounds]
  by_cases h3 : i = k * 4 + 3
  · subst h3; simp [h]
  · by_cases h2 : i = k * 4 + 2
    · subst h2; simp; omega
    · by_cases h1 : i = k * 4 + 1
      · subst h1; simp; omega
      · by_cases h0 : i = k * 4
        · subst h0; simp; omega
        · rw [if_neg (Ne.symm h3), if_neg (Ne.symm h2), if_neg (Ne.symm h1), if_neg (Ne.symm h0), if_neg h3, if_neg h2, if_neg h1, if_neg h0]
theorem AtRep.set4 {p : PSt} {tv : Value} (h : AtRep T w b cs l) {k : Nat} (hk : k < l.length) (hp : RdI T w tv p.tries) (hTb : ¬ T b) :
    AtRep T ((((w.setCell ⟨b, k * 4, none⟩ (.int .i64 p.of)).setCell ⟨b, k * 4 + 1, none⟩ (.int .i64 p.height)).setCell ⟨b, k * 4 + 2, none⟩ tv).setCell ⟨b, k * 4 + 3, none⟩ (.bool true)) b (set4 cs k (.int .i64 p.of) (.int .i64 p.height) tv (.bool true)) (l.set k (some p)) := by
  have hsz := h.sz
  have hS : Chg (fun i => i = b) w ((((w.setCell ⟨b, k * 4, none⟩ (.int .i64 p.of)).setCell ⟨b, k * 4 + 1, none⟩ (.int .i64 p.height)).setCell ⟨b, k * 4 + 2, none⟩ tv).setCell ⟨b, k * 4 + 3, none⟩ (.bool true)) :=
    ((((Chg.refl (fun i => i = b) w).setCell (fun _ => rfl) _).setCell (fun _ => rfl) _).setCell (fun _ => rfl) _).setCell (fun _ => rfl) _
  have hTn : ∀ t, T t → t < w.heap.size → ¬ t = b := fun t ht _ e => hTb (e ▸ ht)
  refine ⟨(((h.blk.set_ _ _).set_ _ _).set_ _ _).set_ _ _, ?_, fun j o hj => ?_⟩
  · unfold Go.Proofs.YtejkaalhjocmgaaDoor.set4
    simp only [Array.size_setIfInBounds, List.length_set]
    exact hsz
  · have hat := fun i => set4_at cs k (.int .i64 p.of) (.int .i64 p.height) tv (.bool true) i (by omega)
    rw [List.getElem?_set] at hj
    split at hj
    · rename_i e
      subst e
      try rw [if_pos hk] at hj
      injection hj with hj
      subst hj
      refine ⟨tv, ?_, ?_, ?_, ?_, hp.chg hS hTn⟩
      · rw [hat, if_neg (by omega), if_neg (by omega), if_neg (by omega), if_pos rfl]
      · rw [hat, if_neg (by omega), if_neg (by omega), if_pos rfl]
      · rw [hat, if_neg (by omega), if_pos rfl]
      · rw [hat, if_pos rfl]
    · rename_i e
      have hne : ∀ i, i < 4 → (Go.Proofs.YtejkaalhjocmgaaDoor.set4 cs k (.int .i64 p.of) (.int .i64 p.height) tv (.bool true))[j * 4 + i]? = cs[j * 4 + i]? := fun i hi => by
        rw [hat, if_neg (by omega), if_neg (by omega), if_neg (by omega), if_neg (by omega)]
      have hold := (h.at_ j o hj).chg hS hTn (T' := T) (fun _ ht _ => ht)
      have e0 := hne 0 (by omega)
      rw [Nat.add_zero] at e0
      cases o with
      | none =>
        obtain ⟨a0, a1, a2, a3⟩ := hold
        exact ⟨e0.trans a0, (hne 1 (by omega)).trans a1, (hne 2 (by omega)).trans a2, (hne 3 (by omega)).trans a3⟩
      | some q =>
        obtain ⟨u, a0, a1, a2, a3, a4⟩ := hold
        exact ⟨u, e0.trans a0, (hne 1 (by omega)).trans a1, (hne 2 (by omega)).trans a2, (hne 3 (by omega)).trans a3, a4⟩
end
abbrev I64 := { x : Int // -9223372036854775808 ≤ x ∧ x ≤ 9223372036854775807 }
def ikey (x : I64) : Lit := .int .i64 x.val
/-- Where the tries may lie. -/
def TT (w : World) (c b mp : Nat) (v5 : Value) (t : Nat) : Prop := t < w.heap.size ∧ t ≠ c ∧ t ≠ b ∧ t ≠ mp ∧ v5.ownBlock ≠ some t
/-- The checker's memory. -/
structure CMem (w : World) (base c b mp n L : Nat) (pv cv v5 : Value) (f : I64 → Option Int) (cs : Array Value) (C : PC) : Prop where
  ck : Blk w c 67 #[pv, cv, .slice (some ⟨b, 0, none⟩) n n, .map (some mp), v5, .bool C.bad]
  ats : AtRep (TT w c b mp v5) w b cs C.at_
  len : C.at_.length = n
  mp_ : ∃ N, N ≤ L ∧ MapK Tryd.prog 3 3 .i64 ikey w mp N f
  has : ∀ x : I64, C.has x.val = (f x).getD 0
  wk : w.ownsRow base 3 1 v5 C.work.length (C.work.map (fun k : Nat => intl (k : Int)))
  tl : ∀ (k : Nat) (p : PSt), C.at_[k]? = some (some p) → p.tries.length ≤ 1000
  base_ : base ≤ c ∧ base ≤ b ∧ base ≤ mp ∧ base ≤ w.heap.size
theorem CMem.ncb {w : World} {base c b mp n L : Nat} {pv cv v5 : Value} {f : I64 → Option Int} {cs : Array Value} {C : PC} (h : CMem w base c b mp n L pv cv v5 f cs C) : c ≠ b := Blk.ne_ h.ck h.ats.blk (by decide)
theorem CMem.ncm {w : World} {base c b mp n L : Nat} {pv cv v5 : Value} {f : I64 → Option Int} {cs : Array Value} {C : PC} (h : CMem w base c b mp n L pv cv v5 f cs C) : c ≠ mp := by
  obtain ⟨N, _, hm⟩ := h.mp_
  exact hm.ne_ h.ck
theorem CMem.nbm {w : World} {base c b mp n L : Nat} {pv cv v5 : Value} {f : I64 → Option Int} {cs : Array Value} {C : PC} (h : CMem w base c b mp n L pv cv v5 f cs C) : b ≠ mp := by
  obtain ⟨N, _, hm⟩ := h.mp_
  exact hm.ne_ h.ats.blk
theorem CMem.noc {w : World} {base c b mp n L : Nat} {pv cv v5 : Value} {f : I64 → Option Int} {cs : Array Value} {C : PC} (h : CMem w base c b mp n L pv cv v5 f cs C) : v5.ownBlock ≠ some c := own_blk_ne h.wk h.ck (by decide)
theorem CMem.nob {w : World} {base c b mp n L : Nat} {pv cv v5 : Value} {f : I64 → Option Int} {cs : Array Value} {C : PC} (h : CMem w base c b mp n L pv cv v5 f cs C) : v5.ownBlock ≠ some b := own_blk_ne h.wk h.ats.blk (by decide)
theorem CMem.nom {w : World} {base c b mp n L : Nat} {pv cv v5 : Value} {f : I64 → Option Int} {cs : Array Value} {C : PC} (h : CMem w base c b mp n L pv cv v5 f cs C) : v5.ownBlock ≠ some mp := by
  obtain ⟨N, _, hm⟩ := h.mp_
  exact hm.own_ne h.wk
/-- Nothing of it was touched. -/
theorem CMem.old {w w' : World} {base c b mp n L : Nat} {pv cv v5 : Value} {f : I64 → Option Int} {cs : Array Value} {C : PC} (h : CMem w base c b mp n L pv cv v5 f cs C) (hc : Chg (fun _ => False) w w') : CMem w' base c b mp n L pv cv v5 f cs C := by
  obtain ⟨N, hN, hm⟩ := h.mp_
  have hs := hc.size
  have hb := h.base_
  exact ⟨h.ck.chg hc id, h.ats.chg hc id (fun _ _ _ => id) (fun t ht _ => ⟨by have := ht.1; omega, ht.2⟩), h.len, ⟨N, hN, hm.chg hc id⟩, h.has, own_chg h.wk hc (fun _ _ => id), h.tl, ⟨hb.1, hb.2.1, hb.2.2.1, by omega⟩⟩
/-- It is bad. -/
theorem CMem.badly {w : World} {base c b mp n L : Nat} {pv cv v5 : Value} {f : I64 → Option Int} {cs : Array Value} {C : PC} (h : CMem w base c b mp n L pv cv v5 f cs C) : CMem (w.setCell ⟨c, 5, none⟩ (.bool true)) base c b mp n L pv cv v5 f cs C.badly := by
  obtain ⟨N, hN, hm⟩ := h.mp_
  have hS : Chg (fun i => i = c) w (w.setCell ⟨c, 5, none⟩ (.bool true)) := (Chg.refl (fun i => i = c) w).setCell (fun _ => rfl) _
  refine ⟨h.ck.set_ 5 (.bool true), h.ats.chg hS (fun e => h.ncb e.symm) (fun t ht _ e => ht.2.1 e) (fun t ht _ => ⟨by rw [size_set]; exact ht.1, ht.2⟩), h.len, ⟨N, hN, hm.chg hS (fun e => h.ncm e.symm)⟩, h.has, own_chg h.wk hS (fun k hk e => h.noc (e ▸ hk)), h.tl, by rw [size_set]; exact h.base_⟩
end Go.Proofs.YtejkaalhjocmgaaDoor
