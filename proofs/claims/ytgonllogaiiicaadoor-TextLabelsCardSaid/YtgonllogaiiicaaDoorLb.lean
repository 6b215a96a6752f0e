/-
  Layer 17: the laws' arguments, opened.
-/
import Derived.Test.YtgonllogaiiicaaDoorLa
import Derived.Deep.Slices
import Derived.Deep.Fields
import Derived.ChangeSame
import Derived.Carry
import Derived.Lib.SmallJoins
namespace Go.Proofs.YtgonllogaiiicaaDoor
open Go.RowKit
open Go.ChangeShapes Go.WideShapes Go.Deep Go.ChangeAt
set_option maxHeartbeats 1000000
set_option maxRecDepth 100000
theorem flat_get2 {α : Type} (f : α → List Value) (n : Nat) (hn : ∀ x, (f x).length = n) (h0 : 0 < n) (l : List α) (j : Nat) (u : Value) (h : (l.flatMap f)[j]? = some u) : ∃ x, l[j / n]? = some x ∧ (f x)[j % n]? = some u := by
  have hl : (l.flatMap f).length = l.length * n := by
    clear h
    induction l with
    | nil => simp
    | cons x l ih => rw [List.flatMap_cons, List.length_append, ih, hn, List.length_cons, Nat.succ_mul]; omega
  have hj := (List.getElem?_eq_some_iff.1 h).1
  rw [hl] at hj
  have hd : j / n < l.length := (Nat.div_lt_iff_lt_mul h0).2 hj
  refine ⟨l[j / n], List.getElem?_eq_getElem hd, ?_⟩
  rw [← flat_get f n hn l (j / n) (j % n) _ (List.getElem?_eq_getElem hd) (Nat.mod_lt _ h0), Nat.div_add_mod']
  exact h
theorem each_list {α : Type} {Q : Nat → α → Prop} : ∀ (n : Nat), (∀ i, i < n → ∃ x, Q i x) → ∃ l : List α, l.length = n ∧ ∀ i x, l[i]? = some x → Q i x := by
  intro n
  induction n with
  | zero => intro _; exact ⟨[], rfl, fun i x h => by simp at h⟩
  | succ n ih =>
    intro h
    obtain ⟨l, hl, hq⟩ := ih (fun i hi => h i (by omega))
    obtain ⟨x, hx⟩ := h n (by omega)
    refine ⟨l ++ [x], by simp [hl], fun i y hy => ?_⟩
    by_cases hi : i < l.length
    · rw [List.getElem?_append_left hi] at hy
      exact hq i y hy
    · have hb := (List.getElem?_eq_some_iff.1 hy).1
      rw [List.length_append, List.length_singleton] at hb
      obtain rfl : i = l.length := by omega
      rw [List.getElem?_append_right (Nat.le_refl _), Nat.sub_self] at hy
      simp at hy
      subst hy
      rw [hl]
      exact hx
theorem rd_of_each {α : Type} (f : α → List Value) (k : Nat) (hk : ∀ x, (f x).length = k) (h0 : 0 < k) {w : World} {a : Addr} {n : Nat} {P : α → Prop} (each : ∀ i, i < n → ∃ q : α, (∀ j u, (f q)[j]? = some u → w.cell? (a.add (i * k + j)) = some u) ∧ P q) :
    ∃ l : List α, l.length = n ∧ Rd (fun _ => True) w (some a) (l.flatMap f) ∧ ∀ x ∈ l, P x := by
  obtain ⟨l, hl, hq⟩ := each_list n each
  refine ⟨l, hl, fun _ => ⟨a, rfl, trivial, fun j u hu => ?_⟩, fun x hx => ?_⟩
  · obtain ⟨q, hq1, hu2⟩ := flat_get2 f k hk h0 l j u hu
    have := (hq _ _ hq1).1 _ _ hu2
    rwa [Nat.div_add_mod'] at this
  · obtain ⟨i, hi, rfl⟩ := List.mem_iff_getElem.1 hx
    exact (hq i _ (List.getElem?_eq_getElem hi)).2
section
variable {H : Type} {enc : TypeId × Value → H} {P : Program} {w : World} {base : Nat} {spare : Nat → Bool} {held : Bool}
theorem open_slice_fields {t e : TypeId} {fs : Array Field} {fuel : Nat} {cs : List Value} {x : DataW H × List MemPlace} (ht : P.underlying t = some (.slice e)) (he : P.underlying e = some (.struct fs))
    (hone : oneCellFields P fs = true) (hC : P.cellsOf e = fs.size) (h : DataW.trod enc P w base spare held fuel t cs = some x) :
    cs = [.slice none 0 0] ∨
    ∃ (a : Addr) (len cap : Nat), cs = [.slice (some a) len cap] ∧ len ≤ maxLen ∧
      ∀ i, i < len → ∃ n : Nat, ∀ (j : Nat) (f : Field), fs[j]? = some f → ∃ (v : Value) (y : DataW H × List MemPlace), w.cell? (a.add (i * fs.size + j)) = some v ∧ DataW.trod enc P w base spare held n f.type [v] = some y := by
  rcases open_slice ht h with h0 | ⟨a, len, cap, m, n, D, Pl, hcs, hb, hl, hm, hmm, hx, hi⟩
  · exact .inl h0.1
  · have hlm : len ≤ m := by
      rw [hmm]
      split
      · exact hl
      · exact Nat.le_refl _
    refine .inr ⟨a, len, cap, hcs, by omega, fun i him => ?_⟩
    obtain ⟨cs', hc, ht'⟩ := hi i (by omega)
    rw [hC] at hc
    obtain ⟨ys, n', hn', hy, hlen, hyl, hf⟩ := DataW.trod_struct he ht'
    obtain ⟨_, hcl, hat⟩ := World.cells?_some hc
    refine ⟨n', fun j f hj => ?_⟩
    obtain ⟨ho, hk⟩ := hone_of hone j f hj
    have hjl : j < fs.size := (Array.getElem?_eq_some_iff.1 hj).1
    have hcell := hat j hjl
    have hv : cs'[j]? = some (cs'[j]'(by omega)) := List.getElem?_eq_getElem (by omega)
    have h1 := hf j f hj
    rw [ho, hk] at h1
    have hone' : (cs'.drop j).take 1 = [cs'[j]'(by omega)] := by
      rw [List.drop_eq_getElem_cons (by omega)]
      rfl
    rw [hone'] at h1
    have hys : ys[j]? = some (ys[j]'(by omega)) := List.getElem?_eq_getElem (by omega)
    refine ⟨_, _, ?_, h1.trans hys⟩
    rw [← Go.Deep.add_add, hcell, hv]
end
noncomputable def fieldsOf (t : TypeId) : Array Field := match Tryd.prog.underlying t with | some (.struct fs) => fs | _ => #[]
theorem und42 : Tryd.prog.underlying 42 = some (.struct (fieldsOf 42)) := by kernel_rfl
theorem types42 : (fieldsOf 42).toList.map (·.type) = [40, 3, 3] := by kernel_rfl
theorem field_at {fs : Array Field} {ts : List TypeId} (h : fs.toList.map (·.type) = ts) (j : Nat) (t : TypeId) (hj : ts[j]? = some t) : ∃ f, fs[j]? = some f ∧ f.type = t := by
  rw [← h, List.getElem?_map] at hj
  obtain ⟨f, hf, rfl⟩ := Option.map_eq_some_iff.1 hj
  exact ⟨f, by rw [← hf]; simp, rfl⟩
section
variable {H : Type} {enc : TypeId × Value → H} {w : World} {base : Nat} {spare : Nat → Bool} {held : Bool}
theorem open_code {fuel : Nat} {v : Value} {x : DataW H × List MemPlace} (h : DataW.trod enc Tryd.prog w base spare held fuel 22 [v] = some x) :
    ∃ (A : Option Addr) (l : List Ins) (c : Nat), v = .slice A l.length c ∧ Rd (fun _ => True) w A (l.flatMap insv) := by
  rcases open_slice_fields Tryd.underlying22 und42 (by kernel_rfl) (by kernel_rfl) h with hcs | ⟨a, len, cap, hcs, hl, hi⟩
  · simp only [List.cons.injEq, and_true] at hcs
    exact ⟨none, [], 0, hcs, Rd.nil_ _ _ _⟩
  · simp only [List.cons.injEq, and_true] at hcs
    have hsz : (fieldsOf 42).size = 3 := by kernel_rfl
    rw [hsz] at hi
    obtain ⟨l, h1, h2, _⟩ := rd_of_each (α := Ins) insv 3 (fun _ => rfl) (by omega) (w := w) (a := a) (n := len) (P := fun _ => True) (fun i hil => by
      obtain ⟨n, hf⟩ := hi i hil
      have hf2 : ∀ j t, [40, 3, 3][j]? = some t → ∃ v y, w.cell? (a.add (i * 3 + j)) = some v ∧ DataW.trod enc Tryd.prog w base spare held n t [v] = some y := by
        intro j t hj
        obtain ⟨f, e, rfl⟩ := field_at types42 j t hj
        exact hf j f e
      obtain ⟨v0, y0, c0, t0⟩ := hf2 0 40 rfl
      obtain ⟨v1, y1, c1, t1⟩ := hf2 1 3 rfl
      obtain ⟨v2, y2, c2, t2⟩ := hf2 2 3 rfl
      obtain ⟨n0, e0, _⟩ := DataW.trod_int Tryd.underlying40 t0
      obtain ⟨n1, e1, _⟩ := DataW.trod_int Tryd.underlying3 t1
      obtain ⟨n2, e2, _⟩ := DataW.trod_int Tryd.underlying3 t2
      simp only [List.cons.injEq, and_true] at e0 e1 e2
      subst e0 e1 e2
      refine ⟨⟨n0, n1, n2⟩, fun j u hu => ?_, trivial⟩
      match j, hu with
      | 0, hu => cases hu; exact c0
      | 1, hu => cases hu; exact c1
      | 2, hu => cases hu; exact c2)
    exact ⟨some a, l, cap, by rw [h1]; exact hcs, h2⟩
theorem code_arg {b0 : Nat} {r : Go.Reach} {v : Value} {d : DataW H} {p : List MemPlace} (hv : Value.okWide Tryd.prog w r b0 22 v) (h : DataW.Trod enc Tryd.prog w base spare held 22 v d p) :
    ∃ (A : Option Addr) (l : List Ins) (c : Nat), v = .slice A l.length c ∧ Rd (fun _ => True) w A (l.flatMap insv) := by
  obtain ⟨A, len, cap, rfl⟩ := okWide_slice Tryd.underlying22 hv
  obtain ⟨fuel, h⟩ := h
  exact open_code (show DataW.trod enc Tryd.prog w base spare held fuel 22 [.slice A len cap] = some _ from h)
end
theorem tryLaid : laidOutB Tryd.prog = true := by kernel_rfl
theorem trod_kept {H : Type} {enc : TypeId × Value → H} {t : TypeId} (hr : Tryd.prog.readableRec t = true) (hrow : t < Tryd.prog.types.size) {W W' : World} {v : Value} {d : DataW H} {ps : List MemPlace}
    (h : DataW.Trod enc Tryd.prog W 0 (fun _ => true) true t v d ps) (hb : Below W.heap.size W W') (hlt : ∀ x ∈ ps, x.block < W.heap.size) {sp : Nat → Bool} (hs : ∀ p ∈ ps, sp p.block = true) : DataW.Trod enc Tryd.prog W' 0 sp true t v d ps :=
  WideElems.Trod_stays tryLaid hr hrow h (fun x hx => hb.same (hlt x hx)) hs
end Go.Proofs.YtgonllogaiiicaaDoor
