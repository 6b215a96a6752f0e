/-
  Layer 10, the document's side: how things stand while names with their types are put behind one another.
-/
import Derived.Test.YticnehmgaklhfaaGreatDoorRk
import Derived.Test.YticnehmgaklhfaaGreatDoorCap
namespace Go.Proofs.YticnehmgaklhfaaGreatDoor
open Go.RowKit
set_option maxRecDepth 100000
def varNd (v : Nat) : Nd := ⟨31, ⟨#[]⟩, (v : Int), 0⟩
def varsK (p : Nat) : List (List Nd) := (List.range p).map fun v => [varNd v]
theorem varsK_succ (p : Nat) : varsK (p + 1) = varsK p ++ [[varNd p]] := by
  unfold varsK
  rw [List.range_succ, List.map_append]
  rfl
theorem varsK_len (p : Nat) : (varsK p).length = p := by simp [varsK]
theorem varsK_of (d : Dt) (p : Nat) (h : d.params = (p : Int)) : (⟨32, d.name, 0, ((varsK p).length : Int)⟩ : Nd) :: (varsK p).flatten = ofL d := by
  unfold ofL
  rw [varsK_len, h, Int.toNat_natCast]
  congr 1
  unfold varsK
  rw [← List.flatMap_def, List.map_eq_flatMap]
  rfl
theorem nd_own (W : World) (n : Nd) (h : ndOk n) : RdN (fun b => b = W.heap.size) (W.alloc (.cells #[.int .i64 n.kind, .string n.text, .int .i64 n.num, .int .i64 n.kids] 56)) (.slice (some ⟨W.heap.size, 0, none⟩) 1 1) [n] :=
  ⟨_, 1, [(n, undef)], rfl, rfl, rd_new W W.heap.size 56 [.int .i64 n.kind, .string n.text, .int .i64 n.num, .int .i64 n.kids] rfl, fun p hp => by
    obtain rfl := List.mem_singleton.1 hp
    exact h, by show 1 ≤ 9223372036854775807; omega⟩
/-- The variables' rows, so far. -/
def VInv (w W : World) (base j : Nat) (vo : Value) : Prop := Chg (fun _ => False) w W ∧ base ≤ W.heap.size ∧ ∃ ps : List (List Nd × Value), ps.map Prod.fst = varsK j ∧ W.ownsRow base 33 1 vo ps.length (ps.map Prod.snd) ∧ ∀ p ∈ ps, RdN (fun b => base ≤ b ∧ ¬ vo.ownBlock = some b) W p.2 p.1
theorem VInv.step {w W W3 : World} {base j : Nat} {vo v3 : Value} {ps : List (List Nd × Value)} (hc : Chg (fun _ => False) w W) (hb : base ≤ W.heap.size) (hwb : w.heap.size ≤ base) (h1 : ps.map Prod.fst = varsK j) (h2 : W.ownsRow base 33 1 vo ps.length (ps.map Prod.snd)) (h3 : ∀ p ∈ ps, RdN (fun b => base ≤ b ∧ ¬ vo.ownBlock = some b) W p.2 p.1)
    {O : Obj} (ho : W3.ownsRow base 33 1 v3 (ps.length + 1) (ps.map Prod.snd ++ [.slice (some ⟨W.heap.size, 0, none⟩) 1 1]))
    (hc3 : Chg (fun k => vo.ownBlock = some k) ((W.alloc (.cells #[.int .i64 31, .string ⟨#[]⟩, .int .i64 (j : Int), .int .i64 0] 56)).alloc O) W3)
    (hat : v3.ownBlock = vo.ownBlock ∨ v3.ownBlock = some ((W.alloc (.cells #[.int .i64 31, .string ⟨#[]⟩, .int .i64 (j : Int), .int .i64 0] 56)).alloc O).heap.size) : VInv w W3 base (j + 1) v3 := by
  have hlt := h2.lt
  have z3 := hc3.size
  rw [size_alloc, size_alloc] at z3 hat
  have hall : Chg (fun k => vo.ownBlock = some k) W W3 := (((Chg.refl (fun k => vo.ownBlock = some k) W).alloc _).alloc _).trans hc3 (fun _ _ h => h)
  refine ⟨hc.trans hall (fun k hk e => by have := (hlt k e).1; omega), by omega, ps ++ [([varNd j], .slice (some ⟨W.heap.size, 0, none⟩) 1 1)], ?_, ?_, fun p hp => ?_⟩
  · rw [List.map_append, h1, varsK_succ]
    rfl
  · rw [List.length_append, List.map_append]
    exact ho
  · rcases List.mem_append.1 hp with hp | hp
    · refine ((RdN.low (h3 p hp)).chg hall (fun k hk _ e => hk.1.2 e)).mono (fun k hk => ⟨hk.1.1, fun e => ?_⟩)
      rcases hat with h | h
      · exact hk.1.2 (h ▸ e)
      · rw [h] at e
        injection e with e
        have := hk.2
        omega
    · obtain rfl := List.mem_singleton.1 hp
      refine (((nd_own W (varNd j) (by show (0 : Nat) ≤ _; omega)).chg ((Chg.refl (fun _ => False) _).alloc O) (fun _ _ _ => id)).chg hc3 (fun k hk _ e => ?_)).mono (fun k hk => ⟨by omega, fun e => ?_⟩)
      · have := (hlt k e).2
        omega
      · subst hk
        rcases hat with h | h
        · have := (hlt _ (h ▸ e)).2
          omega
        · rw [h] at e
          injection e with e
          omega
/-- How the names stand while they are put behind one another. -/
def RsInv (l : List Dt) (w : World) (i k : Nat) (vo : Value) (W : World) : Prop := Chg (fun _ => False) w W ∧ ∃ (ps : List (Sg × Value)), ps.map Prod.fst = sigsTo l i k ∧ W.ownsRow w.heap.size 47 2 vo ps.length (ps.flatMap fun p => [.string p.1.name, p.2]) ∧
  (∀ p ∈ ps, RdN (fun b => w.heap.size ≤ b ∧ ¬ vo.ownBlock = some b) W p.2 p.1.type ∧ p.1.name.size ≤ 9223372036854775807) ∧ ps.length ≤ 60 * i + k
theorem RsInv.stay {l : List Dt} {w W W' : World} {i k : Nat} {vo : Value} (h : RsInv l w i k vo W) (hc : Chg (fun _ => False) W W') : RsInv l w i k vo W' := by
  obtain ⟨h1, ps, h2, h4, h5, h6⟩ := h
  exact ⟨h1.trans' hc, ps, h2, own_chg h4 hc (fun _ _ => id), fun p hp => ⟨(h5 p hp).1.chg hc (fun _ _ _ => id), (h5 p hp).2⟩, h6⟩
theorem RsInv.next {l : List Dt} {w W : World} {i : Nat} {vo : Value} {d : Dt} (h : RsInv l w i d.cons.length vo W) (hd : l[i]? = some d) (hc : d.cons.length ≤ 60) : RsInv l w (i + 1) 0 vo W := by
  obtain ⟨h1, ps, h2, h4, h5, h6⟩ := h
  exact ⟨h1, ps, h2.trans (sigsTo_next hd).symm, h4, h5, by omega⟩
/-- One more: the arrow's row may lean on the row that it comes to. -/
theorem RsInv.step {l : List Dt} {w W W4 W5 : World} {i k : Nat} {d : Dt} {x : Ct} {vo v5 vt u : Value} {ps : List (Sg × Value)} {O : Obj} (hd : l[i]? = some d) (hx : d.cons[k]? = some x) (hxs : x.name.size ≤ 9223372036854775807) (h1 : Chg (fun _ => False) w W) (h2 : ps.map Prod.fst = sigsTo l i k)
    (h4 : W.ownsRow w.heap.size 47 2 vo ps.length (ps.flatMap fun p => [.string p.1.name, p.2])) (h5 : ∀ p ∈ ps, RdN (fun b => w.heap.size ≤ b ∧ ¬ vo.ownBlock = some b) W p.2 p.1.type ∧ p.1.name.size ≤ 9223372036854775807) (h6 : ps.length ≤ 60 * i + k)
    (ht : RdN (fun b => w.heap.size ≤ b ∧ ¬ vo.ownBlock = some b) W vt (ofL d)) (hc4 : Chg (fun _ => False) W W4) (hu : RdN (fun b => (w.heap.size ≤ b ∧ ¬ vo.ownBlock = some b) ∨ W.heap.size ≤ b) W4 u (arrowL x.args (ofL d)))
    (ho : W5.ownsRow w.heap.size 47 2 v5 (ps.length + 1) ((ps.flatMap fun p => [.string p.1.name, p.2]) ++ [.string x.name, u])) (hc5 : Chg (fun k => vo.ownBlock = some k) (W4.alloc O) W5) (hat : v5.ownBlock = vo.ownBlock ∨ v5.ownBlock = some (W4.alloc O).heap.size) :
    RsInv l w i (k + 1) v5 W5 ∧ RdN (fun b => w.heap.size ≤ b ∧ ¬ v5.ownBlock = some b) W5 vt (ofL d) := by
  have hlt := h4.lt
  have z1 := h1.size
  have z4 := hc4.size
  rw [size_alloc] at hat
  have hall : Chg (fun k => vo.ownBlock = some k) W W5 := ((hc4.mono (fun _ _ h => h.elim)).alloc O).trans hc5 (fun _ _ h => h)
  have keep : ∀ {v : Value} {m : List Nd}, RdN (fun b => w.heap.size ≤ b ∧ ¬ vo.ownBlock = some b) W v m → RdN (fun b => w.heap.size ≤ b ∧ ¬ v5.ownBlock = some b) W5 v m := fun {v m} h => by
    refine ((RdN.low h).chg hall (fun b hb _ e => hb.1.2 e)).mono (fun b hb => ⟨hb.1.1, fun e => ?_⟩)
    rcases hat with h7 | h7
    · exact hb.1.2 (h7 ▸ e)
    · rw [h7] at e
      injection e with e
      have := hb.2
      omega
  refine ⟨⟨h1.trans hall (fun b hb e => by have := (hlt b e).1; omega), ps ++ [(⟨x.name, arrowL x.args (ofL d)⟩, u)], ?_, ?_, fun p hp => ?_, ?_⟩, keep ht⟩
  · rw [List.map_append, h2, sigsTo_step hd hx]
    rfl
  · rw [List.length_append, List.flatMap_append]
    exact ho
  · rcases List.mem_append.1 hp with hp | hp
    · exact ⟨keep (h5 p hp).1, (h5 p hp).2⟩
    · obtain rfl := List.mem_singleton.1 hp
      refine ⟨(((RdN.low hu).chg ((Chg.refl (fun _ => False) W4).alloc O) (fun _ _ _ => id)).chg hc5 (fun b hb _ e => ?_)).mono (fun b hb => ⟨?_, fun e => ?_⟩), hxs⟩
      · rcases hb.1 with h7 | h7
        · exact h7.2 e
        · have := (hlt b e).2
          omega
      · rcases hb.1 with h7 | h7
        · exact h7.1
        · omega
      · rcases hat with h8 | h8
        · rcases hb.1 with h7 | h7
          · exact h7.2 (h8 ▸ e)
          · have := (hlt b (h8 ▸ e)).2
            omega
        · rw [h8] at e
          injection e with e
          have := hb.2
          omega
  · rw [List.length_append, List.length_singleton]
    omega
end Go.Proofs.YticnehmgaklhfaaGreatDoor
