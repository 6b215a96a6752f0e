/-
  A map of the call's own with integer elements, told by a function of its keys.
-/
import Derived.Test.YtgonllogaiiicaaDoorLib
import Derived.Maps.OwnSet
import Derived.Maps.OwnOps
import Derived.Maps.Views
namespace Go.Proofs.YtgonllogaiiicaaDoor
open Go.RowKit
open Go.Maps (Keyed)

/-- Block b is a map of at most n entries: of the key kof x it has f x. -/
def MapK {α : Type} (P : Program) (kt et : TypeId) (q : IntKind) (kof : α → Lit) (w : World) (b n : Nat) (f : α → Option Int) : Prop :=
  ∃ D : DataW Unit, w.ownsMap P kt (plainElem P et) b n D ∧ Maps.IsMap D ∧ ∀ x, Maps.has D (kof x) = (f x).isSome ∧ D.atKey (kof x) (.lit (.int q 0)) = .lit (.int q ((f x).getD 0))

section
variable {α : Type} {P : Program} {kt et : TypeId} {q : IntKind} {kof : α → Lit} {w w' : World} {b n : Nat} {f : α → Option Int}

theorem MapK.lt (h : MapK P kt et q kof w b n f) : b < w.heap.size := by
  obtain ⟨D, h, _⟩ := h
  exact h.lt
theorem MapK.chg {S : Nat → Prop} (h : MapK P kt et q kof w b n f) (hc : Chg S w w') (hb : ¬ S b) : MapK P kt et q kof w' b n f := by
  have hlt := h.lt
  obtain ⟨D, ⟨es, clock, hh, F, hs, hD⟩, h2⟩ := h
  exact ⟨D, ⟨es, clock, (hc.block b hlt hb).trans hh, F, hs, hD⟩, h2⟩
theorem MapK.alloc (h : MapK P kt et q kof w b n f) (o : Obj) : MapK P kt et q kof (w.alloc o) b n f := by
  obtain ⟨D, h1, h2⟩ := h
  exact ⟨D, h1.alloc o, h2⟩
theorem MapK.drewN (h : MapK P kt et q kof w b n f) (k : Nat) : MapK P kt et q kof (w.drewN k) b n f := h
theorem MapK.drew (h : MapK P kt et q kof w b n f) : MapK P kt et q kof w.drew b n f := h
theorem MapK.made (w : World) (P : Program) (kt et : TypeId) (q : IntKind) (kof : α → Lit) (b : Nat) (hb : b = w.heap.size) : MapK P kt et q kof (w.alloc (.map #[] 0)) b 0 (fun _ => none) := by
  subst hb
  exact ⟨_, World.ownsMap_made w P kt _, Maps.isMap_empty, fun x => ⟨rfl, rfl⟩⟩
theorem MapK.ne_ {g : Nat} {t : TypeId} {cs : Array Value} (h : MapK P kt et q kof w b n f) (hg : Blk w g t cs) : g ≠ b := by
  rintro rfl
  obtain ⟨D, ⟨es, clock, hh, _⟩, _⟩ := h
  unfold Blk at hg
  rw [hg] at hh
  cases hh

theorem MapK.own_ne {base : Nat} {e : TypeId} {size m : Nat} {v : Value} {xs : List Value} (h : MapK P kt et q kof w b n f) (ho : w.ownsRow base e size v m xs) : v.ownBlock ≠ some b := by
  rcases ho.2 with ⟨rfl, _⟩ | ⟨g', cap, cur, rfl, _, hh, _⟩
  · simp [Value.ownBlock]
  · intro he
    have : g' = b := by simpa [Value.ownBlock] using he
    subst this
    exact MapK.ne_ (t := e) h hh rfl

theorem wpList_lookup_k {ops : Array Oper} {rest : List Oper} {o : Oper} {a : Act} {Q : Exit → Act → World → Prop} (hg : o.guard = none) (m x : Operand) (t : TypeId) (hop : o.op = Op.lookup t m x true)
    (K : Keyed P kt) (ht : P.underlying t = some (.map kt et)) (he : P.underlying et = some (.int q)) (hz : (zeroValue et).run P w = .ok (.int q 0) w)
    (hm : a.eval m = .map (some b)) (h : MapK P kt et q kof w b n f) (key : Value) (y : α) (hx : a.eval x = key) (hkey : keyOf P kt key = some (kof y))
    (hK : wpList P ops Q rest (a.put o.dst (.tuple #[.int q ((f y).getD 0), .bool (f y).isSome])) w) : wpList P ops Q (o :: rest) a w := by
  obtain ⟨D, h1, _, h3⟩ := h
  refine wpList_lookup_own_ok_int w hg m x t hop kt et q K ht he hz b n D hm h1 key (kof y) hx hkey fun c hc _ => ?_
  rw [(h3 y).2] at hc
  injection hc with hc
  injection hc with _ hc
  rw [← hc, (h3 y).1]
  exact hK

theorem wpList_lookup_k1 {ops : Array Oper} {rest : List Oper} {o : Oper} {a : Act} {Q : Exit → Act → World → Prop} (hg : o.guard = none) (m x : Operand) (t : TypeId) (hop : o.op = Op.lookup t m x false)
    (K : Keyed P kt) (ht : P.underlying t = some (.map kt et)) (he : P.underlying et = some (.int q)) (hz : (zeroValue et).run P w = .ok (.int q 0) w)
    (hm : a.eval m = .map (some b)) (h : MapK P kt et q kof w b n f) (key : Value) (y : α) (hx : a.eval x = key) (hkey : keyOf P kt key = some (kof y))
    (hK : wpList P ops Q rest (a.put o.dst (.int q ((f y).getD 0))) w) : wpList P ops Q (o :: rest) a w := by
  obtain ⟨D, h1, _, h3⟩ := h
  refine wpList_lookup_own_int w hg m x t hop kt et q K ht he hz b n D hm h1 key (kof y) hx hkey fun c hc _ => ?_
  rw [(h3 y).2] at hc
  injection hc with hc
  injection hc with _ hc
  rw [← hc]
  exact hK

theorem wpList_update_k [DecidableEq α] {ops : Array Oper} {rest : List Oper} {o : Oper} {a : Act} {Q : Exit → Act → World → Prop} (hg : o.guard = none) (m x v : Operand) (t : TypeId) (hop : o.op = Op.mapUpdate t m x v)
    (inj : ∀ x y, kof x = kof y → x = y) (hlit : ∀ x, WideAt.IsKeyLit (kof x)) (K : Keyed P kt) (ht : P.underlying t = some (.map kt et)) (he : P.underlying et = some (.int q))
    (hm : a.eval m = .map (some b)) (h : MapK P kt et q kof w b n f) (hn : n < maxLen) (key : Value) (y : α) (c : Int) (hx : a.eval x = key) (hv : a.eval v = .int q c) (hwf : (Lit.int q c).wf = true) (hkey : keyOf P kt key = some (kof y))
    (hK : ∀ w', MapK P kt et q kof w' b (n + 1) (fun z => if z = y then some c else f z) → Chg (· = b) w w' → wpList P ops Q rest (a.put o.dst undef) w') : wpList P ops Q (o :: rest) a w := by
  obtain ⟨D, h1, h2, h3⟩ := h
  refine wpList_mapUpdate_own w hg m x v t hop kt et K ht (plainElem P et) b n D hm h1 hn key (.int q c) (kof y) hx hv hkey (.lit (.int q c)) [] (plainElem_int he hwf) fun w' hw' hgr => ?_
  refine hK w' ⟨_, hw', h2.put _ _, fun z => ?_⟩ ⟨hgr.os, hgr.tape, hgr.output, hgr.size, fun i hi hne => hgr.block i hi (fun e => hne (by injection e))⟩
  by_cases hz : z = y
  · subst hz
    simp only [if_true]
    exact ⟨Maps.has_put_same h2 (hlit z) _, Maps.atKey_put_same h2 (hlit z) _ _⟩
  · have hne : kof z ≠ kof y := fun e => hz (inj _ _ e)
    simp only [if_neg hz]
    rw [Maps.has_put_other hne, Maps.atKey_put_other hne]
    exact h3 z
end
end Go.Proofs.YtgonllogaiiicaaDoor
