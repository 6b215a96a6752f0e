/-
  The laws' argument []Act, opened to the acts that it has.
-/
import Derived.Test.YtlgkgglecgdkgaaActs
import Derived.Test.YtlgkgglecgdkgaaPost
import Derived.Deep.Slices
import Derived.Deep.Fields
import Derived.ChangeSame
import Derived.Carry
namespace Go.Proofs.Ytlgkgglecgdkgaa
open Go.ChangeShapes Go.WideShapes Go.RowKit Go.Deep Go.ChangeAt

section
variable {H : Type} {enc : TypeId × Value → H} {P : Program} {w : World} {base : Nat} {spare : Nat → Bool} {held : Bool}
theorem open_slice_fields {t e : TypeId} {fs : Array Field} {fuel : Nat} {cs : List Value} {x : DataW H × List MemPlace} (ht : P.underlying t = some (.slice e)) (he : P.underlying e = some (.struct fs))
    (hone : oneCellFields P fs = true) (hC : P.cellsOf e = fs.size) (h : DataW.trod enc P w base spare held fuel t cs = some x) :
    (cs = [.slice none 0 0] ∧ x = (.nil, [])) ∨
    ∃ (a : Addr) (len cap m : Nat) (D : Nat → DataW H) (Pl : Nat → List MemPlace), cs = [.slice (some a) len cap] ∧ base ≤ a.block ∧ len ≤ cap ∧ cap ≤ maxLen ∧ m = (if spare a.block then cap else len) ∧
      x = (.slice ((List.range len).map D) ((List.range (m - len)).map fun j => D (len + j)), MemPlace.row a (m * fs.size) ++ (List.range m).flatMap Pl) ∧
      ∀ i, i < m → ∃ (ys : List (DataW H × List MemPlace)) (n : Nat), D i = .agg (ys.map (·.1)) ∧ Pl i = ys.flatMap (·.2) ∧ ys.length = fs.size ∧
        ∀ (j : Nat) (f : Field), fs[j]? = some f → ∃ (v : Value) (y : DataW H × List MemPlace), w.cell? (a.add (i * fs.size + j)) = some v ∧ ys[j]? = some y ∧ DataW.trod enc P w base spare held n f.type [v] = some y := by
  rcases open_slice ht h with h0 | ⟨a, len, cap, m, n, D, Pl, hcs, hb, hl, hm, hmm, hx, hi⟩
  · exact .inl h0
  · refine .inr ⟨a, len, cap, m, D, Pl, hcs, hb, hl, hm, hmm, by rw [hC] at hx; exact hx, fun i him => ?_⟩
    obtain ⟨cs', hc, ht'⟩ := hi i him
    rw [hC] at hc
    obtain ⟨ys, n', hn', hy, hlen, hyl, hf⟩ := DataW.trod_struct he ht'
    obtain ⟨_, hcl, hat⟩ := World.cells?_some hc
    simp only [Prod.mk.injEq] at hy
    refine ⟨ys, n', hy.1, hy.2, hyl, fun j f hj => ?_⟩
    obtain ⟨ho, hk⟩ := hone_of hone j f hj
    have hjl : j < fs.size := (Array.getElem?_eq_some_iff.1 hj).1
    have hcell := hat j hjl
    have hv : cs'[j]? = some (cs'[j]'(by omega)) := List.getElem?_eq_getElem (by omega)
    have h1 := hf j f hj
    rw [ho, hk] at h1
    have hone' : (cs'.drop j).take 1 = [cs'[j]'(by omega)] := by
      rw [List.drop_eq_getElem_cons (by omega)]
      rfl
    rw [hone'] at h1
    have hys : ys[j]? = some (ys[j]'(by omega)) := List.getElem?_eq_getElem (by omega)
    refine ⟨_, _, ?_, hys, h1.trans hys⟩
    rw [← Go.Deep.add_add, hcell, hv]

theorem open_introw {t e : TypeId} {fuel : Nat} {v : Value} {x : DataW H × List MemPlace} (ht : P.underlying t = some (.slice e)) (he : P.underlying e = some (.int .i64)) (hc : P.cellsOf e = 1)
    (h : DataW.trod enc P w base spare held fuel t [v] = some x) : ∃ l : List Int, RdInts w v l := by
  rcases open_ints ht he hc h with ⟨hcs, _⟩ | ⟨a, len, cap, zs, hcs, _, hl, _, hz, _, hcell, _⟩
  · simp only [List.cons.injEq, and_true] at hcs
    exact ⟨[], none, 0, hcs, fun h => absurd rfl h⟩
  · simp only [List.cons.injEq, and_true] at hcs
    have hlz : len ≤ zs.length := by
      rw [hz]
      split
      · exact hl
      · exact Nat.le_refl _
    have htl : (zs.take len).length = len := by rw [List.length_take]; omega
    refine ⟨zs.take len, some a, cap, by rw [htl]; exact hcs, fun _ => ⟨a, rfl, trivial, fun j u hu => ?_⟩⟩
    rw [List.getElem?_map] at hu
    obtain ⟨z, hz2, rfl⟩ := Option.map_eq_some_iff.1 hu
    have hj : j < len := by have := (List.getElem?_eq_some_iff.1 hz2).1; omega
    rw [List.getElem?_take_of_lt hj] at hz2
    have hj2 := hcell j (by omega)
    rw [List.getD_eq_getElem?_getD, hz2] at hj2
    exact hj2
end

theorem flat_get' {α : Type} (f : α → List Value) (n : Nat) (hn : ∀ x, (f x).length = n) (h0 : 0 < n) (l : List α) (j : Nat) (u : Value) (h : (l.flatMap f)[j]? = some u) : ∃ x, l[j / n]? = some x ∧ (f x)[j % n]? = some u := by
  have hl : (l.flatMap f).length = l.length * n := by
    clear h
    induction l with
    | nil => simp
    | cons x l ih => rw [List.flatMap_cons, List.length_append, ih, hn, List.length_cons, Nat.succ_mul]; omega
  have hj := (List.getElem?_eq_some_iff.1 h).1
  rw [hl] at hj
  have hd : j / n < l.length := (Nat.div_lt_iff_lt_mul h0).2 hj
  refine ⟨l[j / n], List.getElem?_eq_getElem hd, ?_⟩
  rw [← flat_get f n hn l (j / n) (j % n) _ (List.getElem?_eq_getElem hd) (Nat.mod_lt _ h0), Nat.div_add_mod']
  exact h

noncomputable def actFields : Array Field := match Try.prog.underlying 49 with | some (.struct fs) => fs | _ => #[]
theorem und49 : Try.prog.underlying 49 = some (.struct actFields) := by kernel_rfl
theorem actTypes : actFields.toList.map (·.type) = [3, 32, 3, 47, 9, 3, 3, 3] := by kernel_rfl
theorem actField (j : Nat) (t : TypeId) (h : [3, 32, 3, 47, 9, 3, 3, 3][j]? = some t) : ∃ f, actFields[j]? = some f ∧ f.type = t := by
  rw [← actTypes, List.getElem?_map] at h
  obtain ⟨f, hf, rfl⟩ := Option.map_eq_some_iff.1 h
  exact ⟨f, by rw [← hf]; simp, rfl⟩

set_option maxRecDepth 100000
section
variable {H : Type} {enc : TypeId × Value → H} {w : World} {base : Nat} {spare : Nat → Bool} {held : Bool}
instance : Inhabited ActM := ⟨⟨0, 0, 0, [], ByteArray.empty, 0, 0, 0⟩⟩
instance : Inhabited Value := ⟨.bool false⟩

/-- The acts that a []Act has. -/
theorem open_acts {r : Reach} {b0 : Nat} {v : Value} {d : DataW H} {p : List MemPlace} (hv : Value.okWide Try.prog w r b0 37 v) (h : DataW.Trod enc Try.prog w base spare held 37 v d p) :
    ∃ A l c, v = .slice A (l.length) c ∧ RdActs w A l ∧ l.length ≤ maxLen := by
  obtain ⟨a, len, cap, rfl⟩ := okWide_slice Try.underlying37 hv
  obtain ⟨fuel, hf⟩ := h
  rcases open_slice_fields Try.underlying37 und49 (by kernel_rfl) (by kernel_rfl) hf with ⟨hcs, _⟩ | ⟨a, len, cap, m, D, Pl, hcs, _, hl, hm, hmm, _, hi⟩
  · simp only [Value.cells, List.cons.injEq, Value.slice.injEq, and_true] at hcs
    obtain ⟨rfl, rfl, rfl⟩ := hcs
    exact ⟨none, [], 0, rfl, ⟨[], rfl, fun h => absurd rfl h, fun p hp => absurd hp (by simp)⟩, Nat.zero_le _⟩
  · simp only [Value.cells, List.cons.injEq, Value.slice.injEq, and_true] at hcs
    obtain ⟨rfl, rfl, rfl⟩ := hcs
    have hlm : len ≤ m := by
      rw [hmm]
      split
      · exact hl
      · exact Nat.le_refl _
    have each : ∀ i, i < len → ∃ q : Value × ActM, (∀ j u, (acv q)[j]? = some u → w.cell? (a.add (i * 8 + j)) = some u) ∧ RdInts w q.1 q.2.parts := by
      intro i hil
      obtain ⟨ys, n, _, _, _, hfl⟩ := hi i (by omega)
      have hfl2 : ∀ j t, [3, 32, 3, 47, 9, 3, 3, 3][j]? = some t → ∃ v y, w.cell? (a.add (i * 8 + j)) = some v ∧ DataW.trod enc Try.prog w base spare held n t [v] = some y := by
        intro j t hj
        obtain ⟨f, hf, rfl⟩ := actField j t hj
        obtain ⟨v, y, h1, _, h2⟩ := hfl j f hf
        exact ⟨v, y, h1, h2⟩
      obtain ⟨v0, y0, c0, t0⟩ := hfl2 0 3 rfl
      obtain ⟨v1, y1, c1, t1⟩ := hfl2 1 32 rfl
      obtain ⟨v2, y2, c2, t2⟩ := hfl2 2 3 rfl
      obtain ⟨v3, y3, c3, t3⟩ := hfl2 3 47 rfl
      obtain ⟨v4, y4, c4, t4⟩ := hfl2 4 9 rfl
      obtain ⟨v5, y5, c5, t5⟩ := hfl2 5 3 rfl
      obtain ⟨v6, y6, c6, t6⟩ := hfl2 6 3 rfl
      obtain ⟨v7, y7, c7, t7⟩ := hfl2 7 3 rfl
      obtain ⟨n0, e0, _⟩ := DataW.trod_int Try.underlying3 t0
      obtain ⟨n1, e1, _⟩ := DataW.trod_int Try.underlying32 t1
      obtain ⟨n2, e2, _⟩ := DataW.trod_int Try.underlying3 t2
      obtain ⟨zs, hints⟩ := open_introw Try.underlying47 Try.underlying3 (by kernel_rfl) t3
      obtain ⟨s, e4, _⟩ := DataW.trod_string Try.underlying9 t4
      obtain ⟨n5, e5, _⟩ := DataW.trod_int Try.underlying3 t5
      obtain ⟨n6, e6, _⟩ := DataW.trod_int Try.underlying3 t6
      obtain ⟨n7, e7, _⟩ := DataW.trod_int Try.underlying3 t7
      simp only [List.cons.injEq, and_true] at e0 e1 e2 e4 e5 e6 e7
      subst e0 e1 e2 e4 e5 e6 e7
      refine ⟨(v3, ⟨n0, n1, n2, zs, s, n5, n6, n7⟩), fun j u hu => ?_, hints⟩
      match j, hu with
      | 0, hu => cases hu; exact c0
      | 1, hu => cases hu; exact c1
      | 2, hu => cases hu; exact c2
      | 3, hu => cases hu; exact c3
      | 4, hu => cases hu; exact c4
      | 5, hu => cases hu; exact c5
      | 6, hu => cases hu; exact c6
      | 7, hu => cases hu; exact c7
    obtain ⟨f, hf⟩ := choose_lt each
    refine ⟨some a, ((List.range len).map f).map (·.2), cap, by simp, ⟨(List.range len).map f, rfl, fun _ => ⟨a, rfl, trivial, fun j u hu => ?_⟩, fun q hq => ?_⟩, by simp; omega⟩
    · obtain ⟨q, hq, hu2⟩ := flat_get' acv 8 (fun _ => rfl) (by omega) _ j u hu
      rw [List.getElem?_map] at hq
      obtain ⟨i, hi2, rfl⟩ := Option.map_eq_some_iff.1 hq
      obtain ⟨hlt, hi3⟩ := List.getElem?_eq_some_iff.1 hi2
      rw [List.getElem_range] at hi3
      rw [List.length_range] at hlt
      subst hi3
      have := (hf _ hlt).1 _ _ hu2
      rwa [Nat.div_add_mod'] at this
    · obtain ⟨i, hi2, rfl⟩ := List.mem_map.1 hq
      exact (hf i (List.mem_range.1 hi2)).2
end

theorem tryLaid : laidOutB Try.prog = true := by kernel_rfl
/-- An argument that reads as it read, where nothing old has changed. -/
theorem trod_kept {H : Type} {enc : TypeId × Value → H} {t : TypeId} (hr : Try.prog.readableRec t = true) (hrow : t < Try.prog.types.size) {W W' : World} {v : Value} {d : DataW H} {ps : List MemPlace}
    (h : DataW.Trod enc Try.prog W 0 (fun _ => true) true t v d ps) (hb : Below W.heap.size W W') (hlt : ∀ x ∈ ps, x.block < W.heap.size) {sp : Nat → Bool} (hs : ∀ p ∈ ps, sp p.block = true) : DataW.Trod enc Try.prog W' 0 sp true t v d ps :=
  WideElems.Trod_stays tryLaid hr hrow h (fun x hx => hb.same (hlt x hx)) hs
end Go.Proofs.Ytlgkgglecgdkgaa
