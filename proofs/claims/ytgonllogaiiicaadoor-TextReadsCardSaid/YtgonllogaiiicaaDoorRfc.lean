/-
  A range over a function whose iterator keeps what is left in a cell of its own, block b0: the rounds go from I k to M k; between two the iterator writes that cell. No round leaves early. Of no program.
-/
import Derived.RangeFuncNested
namespace Go.Proofs.YtgonllogaiiicaaDoor
open Go Go.RowKit
variable {F : Fence} {n : Nat} {P : Program}

/-- What is said of a world isn't touched by the loop's own book-keeping: blocks from B on that hold no cells. -/
def Holds (B : Nat) (I : Nat → World → Prop) : Prop := ∀ k W r o ob, B ≤ r → W.heap[r]? = some ob → ob.isCells = false → I k W → I k (W.putObj r o)

/-- Two blocks are as they were. -/
def Same2 (b1 b2 : Nat) (W W' : World) : Prop := W'.heap[b1]? = W.heap[b1]? ∧ W'.heap[b2]? = W.heap[b2]?
theorem Same2.trans {b1 b2 : Nat} {A B C : World} (h : Same2 b1 b2 A B) (k : Same2 b1 b2 B C) : Same2 b1 b2 A C := ⟨k.1.trans h.1, k.2.trans h.2⟩
theorem Same2.alloc {b1 b2 : Nat} {A B : World} (h : Same2 b1 b2 A B) (h1 : b1 < B.heap.size) (h2 : b2 < B.heap.size) (o : Obj) : Same2 b1 b2 A (B.alloc o) := ⟨(Below.heap_alloc B o b1 h1).trans h.1, (Below.heap_alloc B o b2 h2).trans h.2⟩
theorem Same2.putObj {b1 b2 : Nat} (A : World) {r : Nat} (o : Obj) (h1 : b1 < r) (h2 : b2 < r) : Same2 b1 b2 A (A.putObj r o) := ⟨World.putObj_heap_other (by omega), World.putObj_heap_other (by omega)⟩
theorem Same2.cells {b1 b2 : Nat} {A B : World} (h : Same2 b1 b2 A B) : B.cell? ⟨b1, 0, none⟩ = A.cell? ⟨b1, 0, none⟩ ∧ B.cell? ⟨b2, 0, none⟩ = A.cell? ⟨b2, 0, none⟩ := by
  constructor
  · simp only [World.cell?, h.1]
  · simp only [World.cell?, h.2]

/-- What an iterator with a cell of its own promises. -/
def GivesC (F : Fence) (n : Nat) (P : Program) (g : Nat) (lb : Array Value) (N : Nat) (b0 : Nat) (enc rest : Nat → Value) (b1 b2 : Nat) (w0 : World) : Prop :=
  ∀ (l : Nat) (J J' : Nat → World → Prop) (W : World), Same2 b1 b2 w0 W →
    (∀ k W, k < N → J k W → YieldAt F (n - 1) P l #[enc k] W fun e W' => e = .returned (.bool true) ∧ J' k W' ∧ Same2 b1 b2 W W') →
    (∀ k W, k + 1 < N → J' k W → J (k + 1) (W.setCell ⟨b0, 0, none⟩ (rest (k + 1)))) →
    (∀ k W, J k W → W.cell? ⟨b0, 0, none⟩ = some (rest k) ∧ W.frozen? ⟨b0, 0, none⟩ = false) →
    (∀ k W, J' k W → W.cell? ⟨b0, 0, none⟩ = some (rest k) ∧ W.frozen? ⟨b0, 0, none⟩ = false) →
    J 0 W →
    CallsIn F n P g (#[.func (.yield l) #[] #[]] ++ lb) W fun e W' => (∃ v, e = .returned v) ∧ J' (N - 1) W'

theorem wpIn_rangeFunc_cell {g : Operand} {ps : Array Tmp} {assign body : Code} {Q : Exit → Act → World → Prop} {a : Act} {w : World}
    (hro : F.round = none) (h1 : 1 ≤ n) {gf : Nat} {lb : Array Value} (hg : a.eval g = .func (.func gf) #[] lb) (hFg : F.fn gf) (eg : ∀ args w, (callFunc gf args).run P w = .ok (.enter gf args) w)
    {N b0 b1 b2 : Nat} {enc rest : Nat → Value} {w0 : World} (hseq : GivesC F (n - 1) P gf lb N b0 enc rest b1 b2 w0) (hw0 : Same2 b1 b2 w0 w) (hps : ps.size = 1) (hb0 : b0 < w.heap.size) (hb1 : b1 < w.heap.size) (hb2 : b2 < w.heap.size)
    (I M : Nat → World → Prop) (hI : Holds w.heap.size I) (hM : Holds w.heap.size M) (hIa : ∀ W o, I 0 W → I 0 (W.alloc o)) (h0 : I 0 w)
    (hMI : ∀ k W, k + 1 < N → M k W → I (k + 1) (W.setCell ⟨b0, 0, none⟩ (rest (k + 1))))
    (hIc : ∀ k W, I k W → W.cell? ⟨b0, 0, none⟩ = some (rest k) ∧ W.frozen? ⟨b0, 0, none⟩ = false)
    (hMc : ∀ k W, M k W → W.cell? ⟨b0, 0, none⟩ = some (rest k) ∧ W.frozen? ⟨b0, 0, none⟩ = false)
    (a₁ : Nat → Act)
    (hassign : ∀ (l k : Nat) (W : World) (K : Act → World → Prop), k < N → K (a₁ k) W →
      assign.wpIn (F.inRound l) (n - 1 - 1) P (Exit.then K (fun _ _ _ => False)) { tmps := (ps.zip #[enc k]).foldl (fun t (p, v) => t.setIfInBounds p v) a.tmps, defers := [] } W)
    (hbody : ∀ (l k : Nat) (W : World), k < N → I k W → body.wpIn (F.inRound l) (n - 1 - 1) P (fun e _ W' => e = .normal ∧ KeepsFrom w.heap.size W W' ∧ Same2 b1 b2 W W' ∧ M k W') (a₁ k) W)
    (hdone : ∀ (D : Nat) (W : World), w.heap.size ≤ D → M (N - 1) W → W.heap[D]? = some (.deferred (some [])) → Q .normal { a with defers := { target := .collected D, args := #[] } :: a.defers } W) :
    (Code.rangeFunc g ps assign body).wpIn F n P Q a w := by
  refine wpIn_rangeFunc ?_
  intro fn hfn
  rw [hro]
  obtain ⟨rec, hrec⟩ : ∃ rec : LoopState → Option Code → Loop, rec = fun st pe => { state := st, pending := pe, fn, tmps := a.tmps, params := ps, assign, body, defers := w.heap.size } := ⟨_, rfl⟩
  obtain ⟨W1, hW1⟩ : ∃ W1, (w.alloc (.deferred (some []))).alloc (.loop (rec .ready none)) = W1 := ⟨_, rfl⟩
  have hL1 : W1.heap[w.heap.size + 1]? = some (.loop (rec .ready none)) := by
    rw [← hW1]; have := World.alloc_heap_new (w.alloc (.deferred (some []))) (.loop (rec .ready none)); rwa [World.size_alloc] at this
  have hK1 : W1.heap[w.heap.size]? = some (.deferred (some [])) := by
    rw [← hW1]; exact (Below.heap_alloc _ _ _ (by simp)).trans (World.alloc_heap_new w _)
  have hI1 : I 0 W1 := by rw [← hW1]; exact hIa _ _ (hIa _ _ h0)
  have hbW : Same2 b1 b2 w0 W1 := by rw [← hW1]; exact (hw0.alloc hb1 hb2 _).alloc (by simp; omega) (by simp; omega) _
  refine ⟨w.heap.size + 1, [{ target := .collected w.heap.size, args := #[] }], W1, { target := .fn (.func gf) lb, args := #[.func (.yield (w.heap.size + 1)) #[] #[]] }, W1, gf,
    #[.func (.yield (w.heap.size + 1)) #[] #[]] ++ lb, W1, ?_, ?_, ?_, ?_, fun _ => h1, ?_⟩
  · rw [← hW1, hrec]; exact run_enterLoop_outer _ _ _ _ _
  · simp only [resolve, hg]
    simp [go_sem]
  · intro f' hf'; simp [Target.leads] at hf'; subst hf'; exact hFg
  · simp [invoke, go_sem, eg]
  · refine (hseq (w.heap.size + 1)
      (fun k W => I k W ∧ W.heap[w.heap.size + 1]? = some (.loop (rec .ready none)) ∧ W.heap[w.heap.size]? = some (.deferred (some [])))
      (fun k W => M k W ∧ W.heap[w.heap.size + 1]? = some (.loop (rec .ready none)) ∧ W.heap[w.heap.size]? = some (.deferred (some [])))
      W1 hbW ?_ ?_ (fun k W h => hIc k W h.1) (fun k W h => hMc k W h.1) ⟨hI1, hL1, hK1⟩).mono ?_
    · -- one round
      rintro k W hk ⟨hi, hl, hd⟩
      have hlt : w.heap.size + 1 < W.heap.size := (Array.getElem?_eq_some_iff.1 hl).1
      have hy := run_yield (P := P) (args := #[enc k]) hl (by rw [hrec]; exact hps.symm)
      rw [hrec] at hy
      refine ⟨fn, _, assign, body, hy, roundIn_of_wpIn hfn (hassign _ k W _ hk ⟨_, run_beginRound hl (by rw [hrec]), ?_⟩)⟩
      have hl2 : (W.putObj (w.heap.size + 1) (.loop { rec .ready none with state := .busy })).heap[w.heap.size + 1]? = some (.loop { rec .ready none with state := .busy }) := World.putObj_heap_same hlt
      have hk2 : (W.putObj (w.heap.size + 1) (.loop { rec .ready none with state := .busy })).heap[w.heap.size]? = some (.deferred (some [])) := (World.putObj_heap_other (by omega)).trans hd
      have hs2 : Same2 b1 b2 W (W.putObj (w.heap.size + 1) (.loop { rec .ready none with state := .busy })) := Same2.putObj _ _ (by omega) (by omega)
      refine wpIn_mono (hbody _ k _ hk (hI _ _ _ _ _ (by omega) hl rfl hi)) ?_
      rintro e a3 W3 ⟨rfl, hk3, hb3, hm3⟩
      have hl3 := hk3.same _ _ (by omega) hl2 rfl
      have hr := run_endRound (P := P) none hl3
      have hd3 := hk3.same _ _ (Nat.le_refl _) hk2 rfl
      rw [hrec] at hr
      refine ⟨_, _, hr, rfl, ⟨hM _ _ _ _ _ (by omega) hl3 rfl hm3, ?_, (World.putObj_heap_other (by omega)).trans hd3⟩, (hs2.trans hb3).trans (Same2.putObj _ _ (by omega) (by omega))⟩
      rw [hrec]
      exact World.putObj_heap_same (Array.getElem?_eq_some_iff.1 hl3).1
    · rintro k W hk ⟨hm, hl, hd⟩
      exact ⟨hMI k W hk hm, (Below.heap_setCell W ⟨b0, 0, none⟩ _ _ (by show _ ≠ b0; omega)).trans hl, (Below.heap_setCell W ⟨b0, 0, none⟩ _ _ (by show _ ≠ b0; omega)).trans hd⟩
    · rintro e W2 ⟨⟨v, rfl⟩, hm, hl, hd⟩
      refine ⟨none, _, by have := run_endLoop (P := P) hl (by rw [hrec]; simp); rw [hrec] at this; exact this, ?_⟩
      exact hdone _ _ (Nat.le_refl _) (hM _ _ _ _ _ (by omega) hl rfl hm) ((World.putObj_heap_other (by omega)).trans hd)
end Go.Proofs.YtgonllogaiiicaaDoor
