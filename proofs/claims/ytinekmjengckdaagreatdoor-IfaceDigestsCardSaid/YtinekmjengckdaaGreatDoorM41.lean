/-
  Layer 10: the laws' arguments, opened to what they have. Layer 10: what the listed variables give; the laws' arguments. Layer 10: rows of declarations whose constructors' arguments are rows of known room. Layer 23: the laws' arguments, opened: interfaces.
-/
import Derived.Test.YtinekmjengckdaaGreatDoorM30
import Derived.Deep.Slices
import Derived.Deep.Fields
import Derived.ChangeSame
import Derived.Carry
import Derived.Lib.SmallJoins
import Derived.ProofKit
import Derived.LaidMore
import Derived.OpenShut
import Derived.Stop.Joined
import Derived.Lib.LaidTab
import Derived.Test.YtinekmjengckdaaGreatDoorRows
import Derived.Test.YtinekmjengckdaaGreatDoorM26
import Derived.Test.YtinekmjengckdaaGreatDoorM14
namespace Go.Proofs.YtinekmjengckdaaGreatDoor
open Go.ChangeShapes Go.WideShapes Go.RowKit Go.Deep Go.ChangeAt
set_option maxRecDepth 100000
theorem flat_get {β : Type} (g : β → List Value) (n : Nat) (hf : ∀ x, (g x).length = n) (l : List β) (k j : Nat) (x : β) (h : l[k]? = some x) (hj : j < n) : (l.flatMap g)[k * n + j]? = (g x)[j]? := flat_at g n hf l k j x h hj
theorem flat_get2 {α : Type} (f : α → List Value) (n : Nat) (hn : ∀ x, (f x).length = n) (h0 : 0 < n) (l : List α) (j : Nat) (u : Value) (h : (l.flatMap f)[j]? = some u) : ∃ x, l[j / n]? = some x ∧ (f x)[j % n]? = some u := by
  have hl : (l.flatMap f).length = l.length * n := by
    clear h
    induction l with
    | nil => simp
    | cons x l ih => rw [List.flatMap_cons, List.length_append, ih, hn, List.length_cons, Nat.succ_mul]; omega
  have hj := (List.getElem?_eq_some_iff.1 h).1
  rw [hl] at hj
  have hd : j / n < l.length := (Nat.div_lt_iff_lt_mul h0).2 hj
  refine ⟨l[j / n], List.getElem?_eq_getElem hd, ?_⟩
  rw [← flat_get f n hn l (j / n) (j % n) _ (List.getElem?_eq_getElem hd) (Nat.mod_lt _ h0), Nat.div_add_mod']
  exact h
theorem each_list {α : Type} {Q : Nat → α → Prop} : ∀ (n : Nat), (∀ i, i < n → ∃ x, Q i x) → ∃ l : List α, l.length = n ∧ ∀ i x, l[i]? = some x → Q i x := by
  intro n
  induction n with
  | zero => intro _; exact ⟨[], rfl, fun i x h => by simp at h⟩
  | succ n ih =>
    intro h
    obtain ⟨l, hl, hq⟩ := ih (fun i hi => h i (by omega))
    obtain ⟨x, hx⟩ := h n (by omega)
    refine ⟨l ++ [x], by simp [hl], fun i y hy => ?_⟩
    by_cases hi : i < l.length
    · rw [List.getElem?_append_left hi] at hy
      exact hq i y hy
    · have hb := (List.getElem?_eq_some_iff.1 hy).1
      rw [List.length_append, List.length_singleton] at hb
      obtain rfl : i = l.length := by omega
      rw [List.getElem?_append_right (Nat.le_refl _), Nat.sub_self] at hy
      simp at hy
      subst hy
      rw [hl]
      exact hx
theorem rd_of_each {α : Type} (f : α → List Value) (k : Nat) (hk : ∀ x, (f x).length = k) (h0 : 0 < k) {w : World} {a : Addr} {n : Nat} {P : α → Prop} (each : ∀ i, i < n → ∃ q : α, (∀ j u, (f q)[j]? = some u → w.cell? (a.add (i * k + j)) = some u) ∧ P q) :
    ∃ l : List α, l.length = n ∧ Rd (fun _ => True) w (some a) (l.flatMap f) ∧ ∀ x ∈ l, P x := by
  obtain ⟨l, hl, hq⟩ := each_list n each
  refine ⟨l, hl, fun _ => ⟨a, rfl, trivial, fun j u hu => ?_⟩, fun x hx => ?_⟩
  · obtain ⟨q, hq1, hu2⟩ := flat_get2 f k hk h0 l j u hu
    have := (hq _ _ hq1).1 _ _ hu2
    rwa [Nat.div_add_mod'] at this
  · obtain ⟨i, hi, rfl⟩ := List.mem_iff_getElem.1 hx
    exact (hq i _ (List.getElem?_eq_getElem hi)).2
section
variable {H : Type} {enc : TypeId × Value → H} {P : Program} {w : World} {base : Nat} {spare : Nat → Bool} {held : Bool}
theorem open_slice_fields {t e : TypeId} {fs : Array Field} {fuel : Nat} {cs : List Value} {x : DataW H × List MemPlace} (ht : P.underlying t = some (.slice e)) (he : P.underlying e = some (.struct fs))
    (hone : oneCellFields P fs = true) (hC : P.cellsOf e = fs.size) (h : DataW.trod enc P w base spare held fuel t cs = some x) :
    cs = [.slice none 0 0] ∨
    ∃ (a : Addr) (len cap : Nat), cs = [.slice (some a) len cap] ∧ len ≤ maxLen ∧
      ∀ i, i < len → ∃ n : Nat, ∀ (j : Nat) (f : Field), fs[j]? = some f → ∃ (v : Value) (y : DataW H × List MemPlace), w.cell? (a.add (i * fs.size + j)) = some v ∧ DataW.trod enc P w base spare held n f.type [v] = some y := by
  rcases open_slice ht h with h0 | ⟨a, len, cap, m, n, D, Pl, hcs, hb, hl, hm, hmm, hx, hi⟩
  · exact .inl h0.1
  · have hlm : len ≤ m := by
      rw [hmm]
      split
      · exact hl
      · exact Nat.le_refl _
    refine .inr ⟨a, len, cap, hcs, by omega, fun i him => ?_⟩
    obtain ⟨cs', hc, ht'⟩ := hi i (by omega)
    rw [hC] at hc
    obtain ⟨ys, n', hn', hy, hlen, hyl, hf⟩ := DataW.trod_struct he ht'
    obtain ⟨_, hcl, hat⟩ := World.cells?_some hc
    refine ⟨n', fun j f hj => ?_⟩
    obtain ⟨ho, hk⟩ := hone_of hone j f hj
    have hjl : j < fs.size := (Array.getElem?_eq_some_iff.1 hj).1
    have hcell := hat j hjl
    have hv : cs'[j]? = some (cs'[j]'(by omega)) := List.getElem?_eq_getElem (by omega)
    have h1 := hf j f hj
    rw [ho, hk] at h1
    have hone' : (cs'.drop j).take 1 = [cs'[j]'(by omega)] := by
      rw [List.drop_eq_getElem_cons (by omega)]
      rfl
    rw [hone'] at h1
    have hys : ys[j]? = some (ys[j]'(by omega)) := List.getElem?_eq_getElem (by omega)
    refine ⟨_, _, ?_, h1.trans hys⟩
    rw [← Go.Deep.add_add, hcell, hv]
end
theorem rdr_of_each {α : Type} (f : α → Value → List Value) (R : World → Value → α → Prop) (k : Nat) (hk : ∀ x u, (f x u).length = k) (h0 : 0 < k) {w : World} {a : Addr} {n : Nat} (hn : n ≤ maxLen) (each : ∀ i, i < n → ∃ (x : α) (u : Value), (∀ j y, (f x u)[j]? = some y → w.cell? (a.add (i * k + j)) = some y) ∧ R w u x) :
    ∃ xs : List α, xs.length = n ∧ ∀ c, RdR (fun _ => True) w f R (.slice (some a) xs.length c) xs := by
  obtain ⟨l, h1, h2, h3⟩ := rd_of_each (α := α × Value) (fun p => f p.1 p.2) k (fun p => hk p.1 p.2) h0 (w := w) (a := a) (n := n) (P := fun p => R w p.2 p.1) (fun i hi => by
    obtain ⟨x, u, h4, h5⟩ := each i hi
    exact ⟨(x, u), h4, h5⟩)
  simp only [maxLen] at hn
  exact ⟨l.map Prod.fst, by rw [List.length_map, h1], fun c => ⟨some a, c, l, rfl, rfl, h2, h3, by rw [List.length_map]; omega⟩⟩
noncomputable def fieldsOf (t : TypeId) : Array Field := match Tryz.prog.underlying t with | some (.struct fs) => fs | _ => #[]
theorem undNd : Tryz.prog.underlying 59 = some (.struct (fieldsOf 59)) := by kernel_rfl
theorem undCt : Tryz.prog.underlying 64 = some (.struct (fieldsOf 64)) := by kernel_rfl
theorem undDt : Tryz.prog.underlying 70 = some (.struct (fieldsOf 70)) := by kernel_rfl
theorem typesNd : (fieldsOf 59).toList.map (·.type) = [57, 9, 2, 3] := by kernel_rfl
theorem typesCt : (fieldsOf 64).toList.map (·.type) = [9, 62] := by kernel_rfl
theorem typesDt : (fieldsOf 70).toList.map (·.type) = [9, 3, 68] := by kernel_rfl
theorem field_at {fs : Array Field} {ts : List TypeId} (h : fs.toList.map (·.type) = ts) (j : Nat) (t : TypeId) (hj : ts[j]? = some t) : ∃ f, fs[j]? = some f ∧ f.type = t := by
  rw [← h, List.getElem?_map] at hj
  obtain ⟨f, hf, rfl⟩ := Option.map_eq_some_iff.1 hj
  exact ⟨f, by rw [← hf]; simp, rfl⟩
section
variable {H : Type} {enc : TypeId × Value → H} {w : World} {base : Nat} {spare : Nat → Bool} {held : Bool}
theorem open_nodes {fuel : Nat} {v : Value} {x : DataW H × List MemPlace} (h : DataW.trod enc Tryz.prog w base spare held fuel 54 [v] = some x) : ∃ l, RdN (fun _ => True) w v l := by
  rcases open_slice_fields Tryz.underlying54 undNd (by kernel_rfl) (by kernel_rfl) h with hcs | ⟨a, len, cap, hcs, hl, hi⟩
  · simp only [List.cons.injEq, and_true] at hcs
    subst hcs
    exact ⟨[], RdR.nil_ _ _ _ _⟩
  · simp only [List.cons.injEq, and_true] at hcs
    subst hcs
    have hsz : (fieldsOf 59).size = 4 := by kernel_rfl
    rw [hsz] at hi
    obtain ⟨l, h1, h2⟩ := rdr_of_each (α := Nd) ndv (fun _ _ n => ndOk n) 4 (fun _ _ => rfl) (by omega) (w := w) (a := a) (n := len) hl (fun i hil => by
      obtain ⟨n, hf⟩ := hi i hil
      have hf2 : ∀ j t, [57, 9, 2, 3][j]? = some t → ∃ v y, w.cell? (a.add (i * 4 + j)) = some v ∧ DataW.trod enc Tryz.prog w base spare held n t [v] = some y := by
        intro j t hj
        obtain ⟨f, e, rfl⟩ := field_at typesNd j t hj
        exact hf j f e
      obtain ⟨v0, y0, c0, t0⟩ := hf2 0 57 rfl
      obtain ⟨v1, y1, c1, t1⟩ := hf2 1 9 rfl
      obtain ⟨v2, y2, c2, t2⟩ := hf2 2 2 rfl
      obtain ⟨v3, y3, c3, t3⟩ := hf2 3 3 rfl
      obtain ⟨n0, e0, _⟩ := DataW.trod_int Tryz.underlying57 t0
      obtain ⟨s, e1, _, hs⟩ := DataW.trod_string Tryz.underlying9 t1
      obtain ⟨n2, e2, _⟩ := DataW.trod_int Tryz.underlying2 t2
      obtain ⟨n3, e3, _⟩ := DataW.trod_int Tryz.underlying3 t3
      simp only [List.cons.injEq, and_true] at e0 e1 e2 e3
      subst e0 e1 e2 e3
      refine ⟨⟨n0, s, n2, n3⟩, undef, fun j u hu => ?_, (show s.size ≤ _ from hs)⟩
      match j, hu with
      | 0, hu => cases hu; exact c0
      | 1, hu => cases hu; exact c1
      | 2, hu => cases hu; exact c2
      | 3, hu => cases hu; exact c3)
    exact ⟨l, h1 ▸ h2 cap⟩
theorem open_rows {fuel : Nat} {v : Value} {x : DataW H × List MemPlace} (h : DataW.trod enc Tryz.prog w base spare held fuel 62 [v] = some x) : ∃ l, RdNs (fun _ => True) w v l := by
  rcases open_slice Tryz.underlying62 h with hcs | ⟨a, len, cap, m, n, D, Pl, hcs, hb, hl, hm, hmm, hx, hi⟩
  · have hcs := hcs.1
    simp only [List.cons.injEq, and_true] at hcs
    subst hcs
    exact ⟨[], RdR.nil_ _ _ _ _⟩
  · have hlm : len ≤ m := by
      rw [hmm]
      split
      · exact hl
      · exact Nat.le_refl _
    simp only [List.cons.injEq, and_true] at hcs
    subst hcs
    have hC : Tryz.prog.cellsOf 54 = 1 := by kernel_rfl
    obtain ⟨l, h1, h2⟩ := rdr_of_each (α := List Nd) (fun _ u => [u]) (fun w u t => RdN (fun _ => True) w u t) 1 (fun _ _ => rfl) (by omega) (w := w) (a := a) (n := len) (by omega) (fun i hil => by
      obtain ⟨cs', hc, ht'⟩ := hi i (by omega)
      rw [hC] at hc
      obtain ⟨_, hcl, hat⟩ := World.cells?_some hc
      have h0 := hat (i := 0) (by omega)
      obtain ⟨y, hy⟩ : ∃ y, cs' = [y] := by
        match cs', hcl with
        | [y], _ => exact ⟨y, rfl⟩
      subst hy
      obtain ⟨t, ht⟩ := open_nodes ht'
      refine ⟨t, y, fun j u hu => ?_, ht⟩
      match j, hu with
      | 0, hu => cases hu; rw [← Go.Deep.add_add]; exact h0)
    exact ⟨l, h1 ▸ h2 cap⟩
theorem open_ctors {fuel : Nat} {v : Value} {x : DataW H × List MemPlace} (h : DataW.trod enc Tryz.prog w base spare held fuel 68 [v] = some x) : ∃ l, RdC (fun _ => True) w v l := by
  rcases open_slice_fields Tryz.underlying68 undCt (by kernel_rfl) (by kernel_rfl) h with hcs | ⟨a, len, cap, hcs, hl, hi⟩
  · simp only [List.cons.injEq, and_true] at hcs
    subst hcs
    exact ⟨[], RdR.nil_ _ _ _ _⟩
  · simp only [List.cons.injEq, and_true] at hcs
    subst hcs
    have hsz : (fieldsOf 64).size = 2 := by kernel_rfl
    rw [hsz] at hi
    obtain ⟨l, h1, h2⟩ := rdr_of_each (α := Ct) (fun c u => [.string c.name, u]) (fun w u c => RdNs (fun _ => True) w u c.args ∧ c.name.size ≤ 9223372036854775807) 2 (fun _ _ => rfl) (by omega) (w := w) (a := a) (n := len) hl (fun i hil => by
      obtain ⟨n, hf⟩ := hi i hil
      have hf2 : ∀ j t, [9, 62][j]? = some t → ∃ v y, w.cell? (a.add (i * 2 + j)) = some v ∧ DataW.trod enc Tryz.prog w base spare held n t [v] = some y := by
        intro j t hj
        obtain ⟨f, e, rfl⟩ := field_at typesCt j t hj
        exact hf j f e
      obtain ⟨v0, y0, c0, t0⟩ := hf2 0 9 rfl
      obtain ⟨v1, y1, c1, t1⟩ := hf2 1 62 rfl
      obtain ⟨s, e0, _, hs⟩ := DataW.trod_string Tryz.underlying9 t0
      obtain ⟨xs, hxs⟩ := open_rows t1
      simp only [List.cons.injEq, and_true] at e0
      subst e0
      refine ⟨⟨s, xs⟩, v1, fun j u hu => ?_, hxs, hs⟩
      match j, hu with
      | 0, hu => cases hu; exact c0
      | 1, hu => cases hu; exact c1)
    exact ⟨l, h1 ▸ h2 cap⟩
theorem open_datas {fuel : Nat} {v : Value} {x : DataW H × List MemPlace} (h : DataW.trod enc Tryz.prog w base spare held fuel 23 [v] = some x) : ∃ l, RdD (fun _ => True) w v l := by
  rcases open_slice_fields Tryz.underlying23 undDt (by kernel_rfl) (by kernel_rfl) h with hcs | ⟨a, len, cap, hcs, hl, hi⟩
  · simp only [List.cons.injEq, and_true] at hcs
    subst hcs
    exact ⟨[], RdR.nil_ _ _ _ _⟩
  · simp only [List.cons.injEq, and_true] at hcs
    subst hcs
    have hsz : (fieldsOf 70).size = 3 := by kernel_rfl
    rw [hsz] at hi
    obtain ⟨l, h1, h2⟩ := rdr_of_each (α := Dt) (fun d u => [.string d.name, .int .i64 d.params, u]) (fun w u d => RdC (fun _ => True) w u d.cons ∧ d.name.size ≤ 9223372036854775807) 3 (fun _ _ => rfl) (by omega) (w := w) (a := a) (n := len) hl (fun i hil => by
      obtain ⟨n, hf⟩ := hi i hil
      have hf2 : ∀ j t, [9, 3, 68][j]? = some t → ∃ v y, w.cell? (a.add (i * 3 + j)) = some v ∧ DataW.trod enc Tryz.prog w base spare held n t [v] = some y := by
        intro j t hj
        obtain ⟨f, e, rfl⟩ := field_at typesDt j t hj
        exact hf j f e
      obtain ⟨v0, y0, c0, t0⟩ := hf2 0 9 rfl
      obtain ⟨v1, y1, c1, t1⟩ := hf2 1 3 rfl
      obtain ⟨v2, y2, c2, t2⟩ := hf2 2 68 rfl
      obtain ⟨s, e0, _, hs⟩ := DataW.trod_string Tryz.underlying9 t0
      obtain ⟨n1, e1, _⟩ := DataW.trod_int Tryz.underlying3 t1
      obtain ⟨xs, hxs⟩ := open_ctors t2
      simp only [List.cons.injEq, and_true] at e0 e1
      subst e0 e1
      refine ⟨⟨s, n1, xs⟩, v2, fun j u hu => ?_, hxs, hs⟩
      match j, hu with
      | 0, hu => cases hu; exact c0
      | 1, hu => cases hu; exact c1
      | 2, hu => cases hu; exact c2)
    exact ⟨l, h1 ▸ h2 cap⟩
end
theorem tryLaid : laidOutB Tryz.prog = true := by kernel_rfl
/-- An argument that reads as it read, where nothing old has changed. -/
theorem trod_kept {H : Type} {enc : TypeId × Value → H} {t : TypeId} (hr : Tryz.prog.readableRec t = true) (hrow : t < Tryz.prog.types.size) {W W' : World} {v : Value} {d : DataW H} {ps : List MemPlace}
    (h : DataW.Trod enc Tryz.prog W 0 (fun _ => true) true t v d ps) (hb : Below W.heap.size W W') (hlt : ∀ x ∈ ps, x.block < W.heap.size) {sp : Nat → Bool} (hs : ∀ p ∈ ps, sp p.block = true) : DataW.Trod enc Tryz.prog W' 0 sp true t v d ps :=
  WideElems.Trod_stays tryLaid hr hrow h (fun x hx => hb.same (hlt x hx)) hs
/-- The row's last step where of the world it is known that nothing old has changed. -/
theorem post_of_below {H : Type} {enc : TypeId × Value → H} {P : Program} {f : Func} {s : ChangeSpec} {apart fresh handsOn again : Bool} {W W' : World} {args : Array Value} {v : Value} {ds gs : List (DataW H)} {before pa pv : List MemPlace}
    (hW : DataW.Whole enc P f.params.toList s.vars apart W args.toList ds gs before)
    (hres : ∀ (b : Nat) (sp : Nat → Bool) (hd : Bool), DataW.TrodAll enc P W' b sp hd f.resultTypes.toList (v.resultList f.resultTypes.size) (s.fn H (ds ++ gs)).results [])
    (hargs : ∀ sp : Nat → Bool, (∀ p ∈ before, sp p.block = true) → DataW.TrodAll enc P W' 0 sp true f.params.toList args.toList (s.fn H (ds ++ gs)).args pa)
    (hvars : ∀ sp : Nat → Bool, (∀ p ∈ before, sp p.block = true) → DataW.TrodVars enc P W' sp s.vars (s.fn H (ds ++ gs)).vars pv)
    (hps : before = pa ++ pv) (hb : Below W.heap.size W W')
    (hok : ∀ (j : Nat) (t : TypeId) (r : Value), f.resultTypes[j]? = some t → (v.resultList f.resultTypes.size)[j]? = some r → Value.okWide P W' .any 0 t r) :
    s.post enc P f apart fresh handsOn again W args v W' := by
  have hlt : ∀ p ∈ before, p.block < W.heap.size := fun p hp => hW.lt p hp
  have hold : ∀ p ∈ before, (fun b => decide (b < W.heap.size)) p.block = true := fun p hp => by simpa using hlt p hp
  refine ⟨ds, gs, before, [], pa, pv, hW, hres _ _ _, hargs _ hold, hvars _ hold, World.keptBut_mono (fun p hp => ⟨hp, ?_⟩) (hb.frame (· ∈ before)), fun _ => ?_⟩
  · rw [hps, List.mem_append] at hp
    exact Or.inr hp
  · obtain ⟨_, _, _, _, _, hz, hn⟩ := hW
    refine ⟨hok, _, _, ([] ++ pa) ++ pv, ⟨[] ++ pa, pv, trodAll_append (hargs _ (fun _ _ => rfl)) (hres _ _ _), hvars _ (fun _ _ => rfl), rfl, ?_, ?_⟩, ?_⟩
    · intro b off hp
      have hin : MemPlace.cell b off ∈ before := by rw [hps]; simpa using hp
      rw [hb.frozen (hlt _ hin)]
      exact hz b off hin
    · intro ha
      have := hn ha
      rw [hps] at this
      simpa using this
    · intro p hp _
      rw [hps]
      simpa using hp
theorem Tryz.own : ownKnob Tryz.prog.godebug = none := by kernel_rfl
theorem Chg.old {w w' : World} (h : Chg (fun _ => False) w w') : Below w.heap.size w w' := h.below (Nat.le_refl _) (fun _ _ e => e.elim)
end Go.Proofs.YtinekmjengckdaaGreatDoor

namespace Go.Proofs.YtinekmjengckdaaGreatDoor
open Go.ChangeShapes Go.WideShapes Go.RowKit Go.Deep Go.ChangeAt
set_option maxRecDepth 100000
noncomputable def laidR : List (String × DataW Unit) := [("unicode.White_Space", Rows.laid_unicode_White_Space), ("strings.asciiSpace", Rows.laid_strings_asciiSpace)]
noncomputable def gt1 : TypeId := ((Tryz.prog.globals[0]?).map (·.type)).getD 0
theorem gty1 : (Tryz.prog.globals[0]?).map (·.type) = some gt1 := by kernel_rfl
theorem gar1 : Tryz.prog.underlying gt1 = some (.array 256 5) := by kernel_rfl
theorem gce1 : Tryz.prog.cellsOf 5 = 1 := by kernel_rfl
theorem gct1 : Tryz.prog.cellsOf gt1 = 256 := by kernel_rfl
theorem tab1 : (Rows.laid_strings_asciiSpace : DataW Unit) = Lib.tabData .u8 Lib.asciiSpaceTab := by kernel_rfl
/-- What the condition gives. -/
theorem of_laid {W : World} (h : laidMetH Tryz.prog laidR W) : Lay W := by
  rw [MakeChecks.laidMetH_plain _ _ _ (by kernel_rfl)] at h
  obtain ⟨ps, ⟨g2, t2, cs2, f2, p2, q2, hg2, ht2, hv2, hd2, ⟨g1, t1, cs1, f1, p1, q1, hg1, ht1, hv1, hd1, _, _⟩, _⟩, _, _⟩ := h
  obtain rfl := Option.some.inj (globS.symm.trans hg1)
  obtain rfl := Option.some.inj (gty1.symm.trans ht1)
  rw [tab1] at hd1
  have e1 := Lib.cells_of_tab gar1 Tryz.underlying5 gce1 gct1 hd1
  refine ⟨?_, ?_⟩
  · unfold Lib.TabIs
    rw [hv1, ← e1]
  · have globW : Tryz.prog.globalNamed "unicode.White_Space" = some 1 := by kernel_rfl
    unfold World.var? at hv2
    rw [globW] at hv2
    simp only [Option.bind_some] at hv2
    rcases Nat.lt_or_ge 1 W.heap.size with h2 | h2
    · omega
    · rw [Array.getElem?_eq_none h2] at hv2
      cases hv2
theorem door_met (os : Os) (args : Array Value) : laidMetH Tryz.prog laidR ((World.doorLaid Tryz.prog 400 os).forCall (fun _ _ => 0) ⟨#[], args, []⟩).memory :=
  laidMetH_of_parts3 (fuel := 8) (laidMet_of_run' 8 (by kernel_rfl) (by kernel_rfl)) (by kernel_rfl) (by kernel_rfl)
section
variable {H : Type} {enc : TypeId × Value → H} {W : World} {base b0 : Nat} {spare : Nat → Bool} {held : Bool} {r : Go.Reach} {v : Value} {d : DataW H} {p : List MemPlace}
theorem nodes_arg (hv : Value.okWide Tryz.prog W r b0 54 v) (h : DataW.Trod enc Tryz.prog W base spare held 54 v d p) : ∃ l, RdN (fun _ => True) W v l := by
  obtain ⟨A, len, cap, rfl⟩ := okWide_slice Tryz.underlying54 hv
  obtain ⟨fuel, h⟩ := h
  exact open_nodes (show DataW.trod enc Tryz.prog W base spare held fuel 54 [.slice A len cap] = some _ from h)
theorem rows_arg (hv : Value.okWide Tryz.prog W r b0 62 v) (h : DataW.Trod enc Tryz.prog W base spare held 62 v d p) : ∃ l, RdNs (fun _ => True) W v l := by
  obtain ⟨A, len, cap, rfl⟩ := okWide_slice Tryz.underlying62 hv
  obtain ⟨fuel, h⟩ := h
  exact open_rows (show DataW.trod enc Tryz.prog W base spare held fuel 62 [.slice A len cap] = some _ from h)
theorem datas_arg (hv : Value.okWide Tryz.prog W r b0 23 v) (h : DataW.Trod enc Tryz.prog W base spare held 23 v d p) : ∃ l, RdD (fun _ => True) W v l := by
  obtain ⟨A, len, cap, rfl⟩ := okWide_slice Tryz.underlying23 hv
  obtain ⟨fuel, h⟩ := h
  exact open_datas (show DataW.trod enc Tryz.prog W base spare held fuel 23 [.slice A len cap] = some _ from h)
theorem undDt3 : Tryz.prog.underlying 70 = some (.struct #[(fieldsOf 70)[0]!, (fieldsOf 70)[1]!, (fieldsOf 70)[2]!]) := by kernel_rfl
theorem fDa : ((fieldsOf 70)[0]!).type = 9 := by kernel_rfl
theorem fDb : ((fieldsOf 70)[1]!).type = 3 := by kernel_rfl
theorem fDc : ((fieldsOf 70)[2]!).type = 68 := by kernel_rfl
theorem data_arg (hv : Value.okWide Tryz.prog W r b0 70 v) (h : DataW.Trod enc Tryz.prog W base spare held 70 v d p) : ∃ (x : Dt) (u : Value), v = .agg #[.string x.name, .int .i64 x.params, u] ∧ RdC (fun _ => True) W u x.cons ∧ x.name.size ≤ 9223372036854775807 := by
  obtain ⟨v0, v1, v2, y0, y1, y2, n, rfl, _, _, h0, h1, h2⟩ := Go.Joins.open_agg3 undDt3 (by kernel_rfl) (by kernel_rfl) hv h
  rw [fDa] at h0
  rw [fDb] at h1
  rw [fDc] at h2
  obtain ⟨s, e0, _, hs⟩ := DataW.trod_string Tryz.underlying9 h0
  obtain ⟨n1, e1, _⟩ := DataW.trod_int Tryz.underlying3 h1
  obtain ⟨xs, hxs⟩ := open_ctors h2
  simp only [List.cons.injEq, and_true] at e0 e1
  subst e0 e1
  exact ⟨⟨s, n1, xs⟩, v2, rfl, hxs, hs⟩
end
end Go.Proofs.YtinekmjengckdaaGreatDoor

namespace Go.Proofs.YtinekmjengckdaaGreatDoor
open Go.ChangeShapes Go.WideShapes Go.RowKit Go.Deep Go.ChangeAt
set_option maxRecDepth 100000
section
variable {H : Type} {enc : TypeId × Value → H} {w : World} {base : Nat} {spare : Nat → Bool} {held : Bool}
theorem cap_rows {fuel : Nat} {v : Value} {x : DataW H × List MemPlace} (h : DataW.trod enc Tryz.prog w base spare held fuel 62 [v] = some x) : capOk v := by
  rcases open_slice Tryz.underlying62 h with ⟨h0, _⟩ | ⟨a, len, cap, _, _, _, _, hcs, _, hl, hm, _⟩
  · simp only [List.cons.injEq, and_true] at h0
    rw [h0]
    exact ⟨none, 0, 0, rfl, Nat.le_refl _, Nat.zero_le _⟩
  · simp only [List.cons.injEq, and_true] at hcs
    rw [hcs]
    exact ⟨some a, len, cap, rfl, hl, hm⟩
theorem open_ctorsq {fuel : Nat} {v : Value} {x : DataW H × List MemPlace} (h : DataW.trod enc Tryz.prog w base spare held fuel 68 [v] = some x) : ∃ l, RdCq (fun _ => True) w v l := by
  rcases open_slice_fields Tryz.underlying68 undCt (by kernel_rfl) (by kernel_rfl) h with hcs | ⟨a, len, cap, hcs, hl, hi⟩
  · simp only [List.cons.injEq, and_true] at hcs
    subst hcs
    exact ⟨[], RdR.nil_ _ _ _ _⟩
  · simp only [List.cons.injEq, and_true] at hcs
    subst hcs
    have hsz : (fieldsOf 64).size = 2 := by kernel_rfl
    rw [hsz] at hi
    obtain ⟨l, h1, h2⟩ := rdr_of_each (α := Ct) (fun c u => [.string c.name, u]) (fun w u c => RdNs (fun _ => True) w u c.args ∧ c.name.size ≤ 9223372036854775807 ∧ capOk u) 2 (fun _ _ => rfl) (by omega) (w := w) (a := a) (n := len) hl (fun i hil => by
      obtain ⟨n, hf⟩ := hi i hil
      have hf2 : ∀ j t, [9, 62][j]? = some t → ∃ v y, w.cell? (a.add (i * 2 + j)) = some v ∧ DataW.trod enc Tryz.prog w base spare held n t [v] = some y := by
        intro j t hj
        obtain ⟨f, e, rfl⟩ := field_at typesCt j t hj
        exact hf j f e
      obtain ⟨v0, y0, c0, t0⟩ := hf2 0 9 rfl
      obtain ⟨v1, y1, c1, t1⟩ := hf2 1 62 rfl
      obtain ⟨s, e0, _, hs⟩ := DataW.trod_string Tryz.underlying9 t0
      obtain ⟨xs, hxs⟩ := open_rows t1
      simp only [List.cons.injEq, and_true] at e0
      subst e0
      refine ⟨⟨s, xs⟩, v1, fun j u hu => ?_, hxs, hs, cap_rows t1⟩
      match j, hu with
      | 0, hu => cases hu; exact c0
      | 1, hu => cases hu; exact c1)
    exact ⟨l, h1 ▸ h2 cap⟩
theorem open_datasq {fuel : Nat} {v : Value} {x : DataW H × List MemPlace} (h : DataW.trod enc Tryz.prog w base spare held fuel 23 [v] = some x) : ∃ l, RdDq (fun _ => True) w v l := by
  rcases open_slice_fields Tryz.underlying23 undDt (by kernel_rfl) (by kernel_rfl) h with hcs | ⟨a, len, cap, hcs, hl, hi⟩
  · simp only [List.cons.injEq, and_true] at hcs
    subst hcs
    exact ⟨[], RdR.nil_ _ _ _ _⟩
  · simp only [List.cons.injEq, and_true] at hcs
    subst hcs
    have hsz : (fieldsOf 70).size = 3 := by kernel_rfl
    rw [hsz] at hi
    obtain ⟨l, h1, h2⟩ := rdr_of_each (α := Dt) (fun d u => [.string d.name, .int .i64 d.params, u]) (fun w u d => RdCq (fun _ => True) w u d.cons ∧ d.name.size ≤ 9223372036854775807) 3 (fun _ _ => rfl) (by omega) (w := w) (a := a) (n := len) hl (fun i hil => by
      obtain ⟨n, hf⟩ := hi i hil
      have hf2 : ∀ j t, [9, 3, 68][j]? = some t → ∃ v y, w.cell? (a.add (i * 3 + j)) = some v ∧ DataW.trod enc Tryz.prog w base spare held n t [v] = some y := by
        intro j t hj
        obtain ⟨f, e, rfl⟩ := field_at typesDt j t hj
        exact hf j f e
      obtain ⟨v0, y0, c0, t0⟩ := hf2 0 9 rfl
      obtain ⟨v1, y1, c1, t1⟩ := hf2 1 3 rfl
      obtain ⟨v2, y2, c2, t2⟩ := hf2 2 68 rfl
      obtain ⟨s, e0, _, hs⟩ := DataW.trod_string Tryz.underlying9 t0
      obtain ⟨n1, e1, _⟩ := DataW.trod_int Tryz.underlying3 t1
      obtain ⟨xs, hxs⟩ := open_ctorsq t2
      simp only [List.cons.injEq, and_true] at e0 e1
      subst e0 e1
      refine ⟨⟨s, n1, xs⟩, v2, fun j u hu => ?_, hxs, hs⟩
      match j, hu with
      | 0, hu => cases hu; exact c0
      | 1, hu => cases hu; exact c1
      | 2, hu => cases hu; exact c2)
    exact ⟨l, h1 ▸ h2 cap⟩
theorem datas_argq {b0 : Nat} {r : Go.Reach} {v : Value} {d : DataW H} {p : List MemPlace} (hv : Value.okWide Tryz.prog w r b0 23 v) (h : DataW.Trod enc Tryz.prog w base spare held 23 v d p) : ∃ l, RdDq (fun _ => True) w v l := by
  obtain ⟨A, len, cap, rfl⟩ := okWide_slice Tryz.underlying23 hv
  obtain ⟨fuel, h⟩ := h
  exact open_datasq (show DataW.trod enc Tryz.prog w base spare held fuel 23 [.slice A len cap] = some _ from h)
end
end Go.Proofs.YtinekmjengckdaaGreatDoor

namespace Go.Proofs.YtinekmjengckdaaGreatDoor
open Go.ChangeShapes Go.WideShapes Go.RowKit Go.Deep Go.ChangeAt
set_option maxRecDepth 100000
section
variable {H : Type} {enc : TypeId × Value → H} {w : World} {base : Nat} {spare : Nat → Bool} {held : Bool}
theorem cap_slice {t e : TypeId} (ht : Tryz.prog.underlying t = some (.slice e)) {fuel : Nat} {v : Value} {x : DataW H × List MemPlace} (h : DataW.trod enc Tryz.prog w base spare held fuel t [v] = some x) : capOk v := by
  rcases open_slice ht h with ⟨h0, _⟩ | ⟨a, len, cap, _, _, _, _, hcs, _, hl, hm, _⟩
  · simp only [List.cons.injEq, and_true] at h0
    rw [h0]
    exact ⟨none, 0, 0, rfl, Nat.le_refl _, Nat.zero_le _⟩
  · simp only [List.cons.injEq, and_true] at hcs
    rw [hcs]
    exact ⟨some a, len, cap, rfl, hl, hm⟩
theorem undOp : Tryz.prog.underlying 51 = some (.struct (fieldsOf 51)) := by kernel_rfl
theorem undFx : Tryz.prog.underlying 53 = some (.struct (fieldsOf 53)) := by kernel_rfl
theorem undSg : Tryz.prog.underlying 56 = some (.struct (fieldsOf 56)) := by kernel_rfl
theorem undIf : Tryz.prog.underlying 27 = some (.struct (fieldsOf 27)) := by kernel_rfl
theorem typesOp : (fieldsOf 51).toList.map (·.type) = [9, 33] := by kernel_rfl
theorem typesFx : (fieldsOf 53).toList.map (·.type) = [9, 3, 3] := by kernel_rfl
theorem typesSg : (fieldsOf 56).toList.map (·.type) = [9, 54] := by kernel_rfl
theorem typesIf : (fieldsOf 27).toList.map (·.type) = [9, 22, 23, 24, 25] := by kernel_rfl
theorem u32_ok {n : Int} (h : (Lit.int .u32 n).wf = true) : 0 ≤ n ∧ n < 4294967296 := by
  have h1 : IntKind.u32.min = 0 := by decide
  have h2 : IntKind.u32.max = 4294967295 := by decide
  simp only [Lit.wf, Bool.and_eq_true, decide_eq_true_eq, h1, h2] at h
  omega
theorem open_opens {fuel : Nat} {v : Value} {x : DataW H × List MemPlace} (h : DataW.trod enc Tryz.prog w base spare held fuel 22 [v] = some x) : ∃ l, RdO (fun _ => True) w v l := by
  rcases open_slice_fields Tryz.underlying22 undOp (by kernel_rfl) (by kernel_rfl) h with hcs | ⟨a, len, cap, hcs, hl, hi⟩
  · simp only [List.cons.injEq, and_true] at hcs
    subst hcs
    exact ⟨[], RdR.nil_ _ _ _ _⟩
  · simp only [List.cons.injEq, and_true] at hcs
    subst hcs
    have hsz : (fieldsOf 51).size = 2 := by kernel_rfl
    rw [hsz] at hi
    obtain ⟨l, h1, h2⟩ := rdr_of_each (α := Opn) (fun o _ => [.string o.name, .int .u32 o.digest]) (fun _ _ o => o.name.size ≤ 9223372036854775807 ∧ 0 ≤ o.digest ∧ o.digest < 4294967296) 2 (fun _ _ => rfl) (by omega) (w := w) (a := a) (n := len) hl (fun i hil => by
      obtain ⟨n, hf⟩ := hi i hil
      have hf2 : ∀ j t, [9, 33][j]? = some t → ∃ v y, w.cell? (a.add (i * 2 + j)) = some v ∧ DataW.trod enc Tryz.prog w base spare held n t [v] = some y := by
        intro j t hj
        obtain ⟨f, e, rfl⟩ := field_at typesOp j t hj
        exact hf j f e
      obtain ⟨v0, y0, c0, t0⟩ := hf2 0 9 rfl
      obtain ⟨v1, y1, c1, t1⟩ := hf2 1 33 rfl
      obtain ⟨s, e0, _, hs⟩ := DataW.trod_string Tryz.underlying9 t0
      obtain ⟨n1, e1, _, hw⟩ := DataW.trod_int Tryz.underlying33 t1
      simp only [List.cons.injEq, and_true] at e0 e1
      subst e0 e1
      refine ⟨⟨s, n1⟩, undef, fun j u hu => ?_, hs, u32_ok hw⟩
      match j, hu with
      | 0, hu => cases hu; exact c0
      | 1, hu => cases hu; exact c1)
    exact ⟨l, h1 ▸ h2 cap⟩
theorem open_fixs {fuel : Nat} {v : Value} {x : DataW H × List MemPlace} (h : DataW.trod enc Tryz.prog w base spare held fuel 24 [v] = some x) : ∃ l, RdF (fun _ => True) w v l := by
  rcases open_slice_fields Tryz.underlying24 undFx (by kernel_rfl) (by kernel_rfl) h with hcs | ⟨a, len, cap, hcs, hl, hi⟩
  · simp only [List.cons.injEq, and_true] at hcs
    subst hcs
    exact ⟨[], RdR.nil_ _ _ _ _⟩
  · simp only [List.cons.injEq, and_true] at hcs
    subst hcs
    have hsz : (fieldsOf 53).size = 3 := by kernel_rfl
    rw [hsz] at hi
    obtain ⟨l, h1, h2⟩ := rdr_of_each (α := Fx) (fun f _ => [.string f.op, .int .i64 f.level, .int .i64 f.side]) (fun _ _ f => f.op.size ≤ 9223372036854775807) 3 (fun _ _ => rfl) (by omega) (w := w) (a := a) (n := len) hl (fun i hil => by
      obtain ⟨n, hf⟩ := hi i hil
      have hf2 : ∀ j t, [9, 3, 3][j]? = some t → ∃ v y, w.cell? (a.add (i * 3 + j)) = some v ∧ DataW.trod enc Tryz.prog w base spare held n t [v] = some y := by
        intro j t hj
        obtain ⟨f, e, rfl⟩ := field_at typesFx j t hj
        exact hf j f e
      obtain ⟨v0, y0, c0, t0⟩ := hf2 0 9 rfl
      obtain ⟨v1, y1, c1, t1⟩ := hf2 1 3 rfl
      obtain ⟨v2, y2, c2, t2⟩ := hf2 2 3 rfl
      obtain ⟨s, e0, _, hs⟩ := DataW.trod_string Tryz.underlying9 t0
      obtain ⟨n1, e1, _⟩ := DataW.trod_int Tryz.underlying3 t1
      obtain ⟨n2, e2, _⟩ := DataW.trod_int Tryz.underlying3 t2
      simp only [List.cons.injEq, and_true] at e0 e1 e2
      subst e0 e1 e2
      refine ⟨⟨s, n1, n2⟩, undef, fun j u hu => ?_, hs⟩
      match j, hu with
      | 0, hu => cases hu; exact c0
      | 1, hu => cases hu; exact c1
      | 2, hu => cases hu; exact c2)
    exact ⟨l, h1 ▸ h2 cap⟩
theorem open_sigsc {fuel : Nat} {v : Value} {x : DataW H × List MemPlace} (h : DataW.trod enc Tryz.prog w base spare held fuel 25 [v] = some x) : ∃ l, RdSc (fun _ => True) w v l := by
  rcases open_slice_fields Tryz.underlying25 undSg (by kernel_rfl) (by kernel_rfl) h with hcs | ⟨a, len, cap, hcs, hl, hi⟩
  · simp only [List.cons.injEq, and_true] at hcs
    subst hcs
    exact ⟨[], RdR.nil_ _ _ _ _⟩
  · simp only [List.cons.injEq, and_true] at hcs
    subst hcs
    have hsz : (fieldsOf 56).size = 2 := by kernel_rfl
    rw [hsz] at hi
    obtain ⟨l, h1, h2⟩ := rdr_of_each (α := Sg) (fun c u => [.string c.name, u]) (fun w u c => RdN (fun _ => True) w u c.type ∧ c.name.size ≤ 9223372036854775807 ∧ capOk u) 2 (fun _ _ => rfl) (by omega) (w := w) (a := a) (n := len) hl (fun i hil => by
      obtain ⟨n, hf⟩ := hi i hil
      have hf2 : ∀ j t, [9, 54][j]? = some t → ∃ v y, w.cell? (a.add (i * 2 + j)) = some v ∧ DataW.trod enc Tryz.prog w base spare held n t [v] = some y := by
        intro j t hj
        obtain ⟨f, e, rfl⟩ := field_at typesSg j t hj
        exact hf j f e
      obtain ⟨v0, y0, c0, t0⟩ := hf2 0 9 rfl
      obtain ⟨v1, y1, c1, t1⟩ := hf2 1 54 rfl
      obtain ⟨s, e0, _, hs⟩ := DataW.trod_string Tryz.underlying9 t0
      obtain ⟨xs, hxs⟩ := open_nodes t1
      simp only [List.cons.injEq, and_true] at e0
      subst e0
      refine ⟨⟨s, xs⟩, v1, fun j u hu => ?_, hxs, hs, cap_slice Tryz.underlying54 t1⟩
      match j, hu with
      | 0, hu => cases hu; exact c0
      | 1, hu => cases hu; exact c1)
    exact ⟨l, h1 ▸ h2 cap⟩
theorem array5 {α : Type} {cs : Array α} (h : cs.size = 5) : ∃ c0 c1 c2 c3 c4, cs = #[c0, c1, c2, c3, c4] := by
  obtain ⟨l⟩ := cs
  match l, h with
  | [c0, c1, c2, c3, c4], _ => exact ⟨c0, c1, c2, c3, c4, rfl⟩
theorem iface_arg {b0 : Nat} {r : Go.Reach} {v : Value} {d : DataW H} {p : List MemPlace} (hv : Value.okWide Tryz.prog w r b0 27 v) (h : DataW.Trod enc Tryz.prog w base spare held 27 v d p) :
    ∃ (i : Ifc) (vo vd vf vs : Value), v = .agg #[.string i.name, vo, vd, vf, vs] ∧ RdIf (fun _ => True) w i vo vd vf vs ∧ RdDq (fun _ => True) w vd i.datas := by
  obtain ⟨cs, rfl, hsz⟩ := okWide_struct undIf hv
  have hC : Tryz.prog.cellsOf 27 = 5 := by kernel_rfl
  obtain ⟨c0, c1, c2, c3, c4, rfl⟩ := array5 (hsz.trans hC)
  obtain ⟨fuel, hf⟩ := h
  obtain ⟨xs, n, _, _, _, hlen, hat⟩ := DataW.trod_struct undIf hf
  have hone : oneCellFields Tryz.prog (fieldsOf 27) = true := by kernel_rfl
  have hsz5 : (fieldsOf 27).size = 5 := by kernel_rfl
  have hf2 : ∀ (j : Nat) (t : TypeId) (c : Value), ([9, 22, 23, 24, 25] : List TypeId)[j]? = some t → [c0, c1, c2, c3, c4][j]? = some c → ∃ y, DataW.trod enc Tryz.prog w base spare held n t [c] = some y := by
    intro j t c hj hc
    obtain ⟨f, e, rfl⟩ := field_at typesIf j t hj
    obtain ⟨ho, hk⟩ := hone_of hone j f e
    have h1 := hat j f e
    rw [ho, hk] at h1
    have hjl := (List.getElem?_eq_some_iff.1 hc).1
    have h2 : (((Value.agg #[c0, c1, c2, c3, c4]).cells.toList.drop j).take 1) = [c] := by
      show ([c0, c1, c2, c3, c4].drop j).take 1 = [c]
      rw [List.drop_eq_getElem_cons hjl, List.take_succ_cons, List.take_zero, (List.getElem?_eq_some_iff.1 hc).2]
    rw [h2] at h1
    exact ⟨_, h1.trans (List.getElem?_eq_getElem (by rw [hlen, hsz5]; exact hjl))⟩
  obtain ⟨y0, t0⟩ := hf2 0 9 c0 rfl rfl
  obtain ⟨y1, t1⟩ := hf2 1 22 c1 rfl rfl
  obtain ⟨y2, t2⟩ := hf2 2 23 c2 rfl rfl
  obtain ⟨y3, t3⟩ := hf2 3 24 c3 rfl rfl
  obtain ⟨y4, t4⟩ := hf2 4 25 c4 rfl rfl
  obtain ⟨s, e0, _, hs⟩ := DataW.trod_string Tryz.underlying9 t0
  simp only [List.cons.injEq, and_true] at e0
  subst e0
  obtain ⟨lo, ho⟩ := open_opens t1
  obtain ⟨ld, hd⟩ := open_datasq t2
  obtain ⟨lf, hfx⟩ := open_fixs t3
  obtain ⟨ls, hsg⟩ := open_sigsc t4
  exact ⟨⟨s, lo, ld, lf, ls⟩, c1, c2, c3, c4, rfl, ⟨hs, ho, hd.rd, hfx, hsg, cap_slice Tryz.underlying24 t3, cap_slice Tryz.underlying25 t4⟩, hd⟩
end
end Go.Proofs.YtinekmjengckdaaGreatDoor
