/-
  Layer 10: rows of declarations whose constructors' arguments are rows of known room.
-/
import Derived.Test.YticnehmgaklhfaaGreatDoorLay
namespace Go.Proofs.YticnehmgaklhfaaGreatDoor
open Go.ChangeShapes Go.WideShapes Go.RowKit Go.Deep Go.ChangeAt
set_option maxRecDepth 100000
/-- A row of constructors, each with room known. -/
def RdCq (T : Nat → Prop) (w : World) (v : Value) (xs : List Ct) : Prop := RdR T w (fun c u => [.string c.name, u]) (fun w u c => RdNs T w u c.args ∧ c.name.size ≤ 9223372036854775807 ∧ capOk u) v xs
/-- A row of declarations, each with room known. -/
def RdDq (T : Nat → Prop) (w : World) (v : Value) (xs : List Dt) : Prop := RdR T w (fun d u => [.string d.name, .int .i64 d.params, u]) (fun w u d => RdCq T w u d.cons ∧ d.name.size ≤ 9223372036854775807) v xs
section
variable {T S : Nat → Prop} {w w' : World} {v : Value}
theorem RdCq.rd {xs : List Ct} (h : RdCq T w v xs) : RdC T w v xs := RdR.mono h (fun _ h => h) (fun _ _ _ h => ⟨h.1, h.2.1⟩)
theorem RdDq.rd {xs : List Dt} (h : RdDq T w v xs) : RdD T w v xs := RdR.mono h (fun _ h => h) (fun _ _ _ h => ⟨h.1.rd, h.2⟩)
theorem RdCq.chg {xs : List Ct} (h : RdCq T w v xs) (hc : Chg S w w') (hT : ∀ b, T b → b < w.heap.size → ¬ S b) : RdCq T w' v xs := RdR.chg h hc hT (fun _ _ _ h => ⟨h.1.chg hc hT, h.2⟩)
theorem RdDq.chg {xs : List Dt} (h : RdDq T w v xs) (hc : Chg S w w') (hT : ∀ b, T b → b < w.heap.size → ¬ S b) : RdDq T w' v xs := RdR.chg h hc hT (fun _ _ _ h => ⟨h.1.chg hc hT, h.2⟩)
theorem RdCq.at_ {xs : List Ct} (h : RdCq T w v xs) {k : Nat} {x : Ct} (hk : xs[k]? = some x) : ∃ b o c u, v = .slice (some ⟨b, o, none⟩) xs.length c ∧ T b ∧ RdNs T w u x.args ∧ x.name.size ≤ 9223372036854775807 ∧ capOk u ∧ w.cell? ⟨b, o + k * 2, none⟩ = some (.string x.name) ∧ w.cell? ⟨b, o + k * 2 + 1, none⟩ = some u := by
  obtain ⟨b, o, c, u, h1, h2, h3, h4⟩ := RdR.at_ h (n := 2) (fun _ _ => rfl) (by omega) hk
  exact ⟨b, o, c, u, h1, h2, h3.1, h3.2.1, h3.2.2, h4 0 _ (by omega) rfl, by rw [Nat.add_assoc]; exact h4 1 _ (by omega) rfl⟩
theorem RdDq.at_ {xs : List Dt} (h : RdDq T w v xs) {k : Nat} {x : Dt} (hk : xs[k]? = some x) : ∃ b o c u, v = .slice (some ⟨b, o, none⟩) xs.length c ∧ T b ∧ RdCq T w u x.cons ∧ x.name.size ≤ 9223372036854775807 ∧ w.cell? ⟨b, o + k * 3, none⟩ = some (.string x.name) ∧ w.cell? ⟨b, o + k * 3 + 1, none⟩ = some (.int .i64 x.params) ∧ w.cell? ⟨b, o + k * 3 + 2, none⟩ = some u := by
  obtain ⟨b, o, c, u, h1, h2, h3, h4⟩ := RdR.at_ h (n := 3) (fun _ _ => rfl) (by omega) hk
  exact ⟨b, o, c, u, h1, h2, h3.1, h3.2, h4 0 _ (by omega) rfl, by rw [Nat.add_assoc]; exact h4 1 _ (by omega) rfl, by rw [Nat.add_assoc]; exact h4 2 _ (by omega) rfl⟩
end
section
variable {H : Type} {enc : TypeId × Value → H} {w : World} {base : Nat} {spare : Nat → Bool} {held : Bool}
theorem cap_rows {fuel : Nat} {v : Value} {x : DataW H × List MemPlace} (h : DataW.trod enc Tryz.prog w base spare held fuel 32 [v] = some x) : capOk v := by
  rcases open_slice Tryz.underlying32 h with ⟨h0, _⟩ | ⟨a, len, cap, _, _, _, _, hcs, _, hl, hm, _⟩
  · simp only [List.cons.injEq, and_true] at h0
    rw [h0]
    exact ⟨none, 0, 0, rfl, Nat.le_refl _, Nat.zero_le _⟩
  · simp only [List.cons.injEq, and_true] at hcs
    rw [hcs]
    exact ⟨some a, len, cap, rfl, hl, hm⟩
theorem open_ctorsq {fuel : Nat} {v : Value} {x : DataW H × List MemPlace} (h : DataW.trod enc Tryz.prog w base spare held fuel 48 [v] = some x) : ∃ l, RdCq (fun _ => True) w v l := by
  rcases open_slice_fields Tryz.underlying48 undCt (by kernel_rfl) (by kernel_rfl) h with hcs | ⟨a, len, cap, hcs, hl, hi⟩
  · simp only [List.cons.injEq, and_true] at hcs
    subst hcs
    exact ⟨[], RdR.nil_ _ _ _ _⟩
  · simp only [List.cons.injEq, and_true] at hcs
    subst hcs
    have hsz : (fieldsOf 53).size = 2 := by kernel_rfl
    rw [hsz] at hi
    obtain ⟨l, h1, h2⟩ := rdr_of_each (α := Ct) (fun c u => [.string c.name, u]) (fun w u c => RdNs (fun _ => True) w u c.args ∧ c.name.size ≤ 9223372036854775807 ∧ capOk u) 2 (fun _ _ => rfl) (by omega) (w := w) (a := a) (n := len) hl (fun i hil => by
      obtain ⟨n, hf⟩ := hi i hil
      have hf2 : ∀ j t, [9, 32][j]? = some t → ∃ v y, w.cell? (a.add (i * 2 + j)) = some v ∧ DataW.trod enc Tryz.prog w base spare held n t [v] = some y := by
        intro j t hj
        obtain ⟨f, e, rfl⟩ := field_at typesCt j t hj
        exact hf j f e
      obtain ⟨v0, y0, c0, t0⟩ := hf2 0 9 rfl
      obtain ⟨v1, y1, c1, t1⟩ := hf2 1 32 rfl
      obtain ⟨s, e0, _, hs⟩ := DataW.trod_string Tryz.underlying9 t0
      obtain ⟨xs, hxs⟩ := open_rows t1
      simp only [List.cons.injEq, and_true] at e0
      subst e0
      refine ⟨⟨s, xs⟩, v1, fun j u hu => ?_, hxs, hs, cap_rows t1⟩
      match j, hu with
      | 0, hu => cases hu; exact c0
      | 1, hu => cases hu; exact c1)
    exact ⟨l, h1 ▸ h2 cap⟩
theorem open_datasq {fuel : Nat} {v : Value} {x : DataW H × List MemPlace} (h : DataW.trod enc Tryz.prog w base spare held fuel 22 [v] = some x) : ∃ l, RdDq (fun _ => True) w v l := by
  rcases open_slice_fields Tryz.underlying22 undDt (by kernel_rfl) (by kernel_rfl) h with hcs | ⟨a, len, cap, hcs, hl, hi⟩
  · simp only [List.cons.injEq, and_true] at hcs
    subst hcs
    exact ⟨[], RdR.nil_ _ _ _ _⟩
  · simp only [List.cons.injEq, and_true] at hcs
    subst hcs
    have hsz : (fieldsOf 51).size = 3 := by kernel_rfl
    rw [hsz] at hi
    obtain ⟨l, h1, h2⟩ := rdr_of_each (α := Dt) (fun d u => [.string d.name, .int .i64 d.params, u]) (fun w u d => RdCq (fun _ => True) w u d.cons ∧ d.name.size ≤ 9223372036854775807) 3 (fun _ _ => rfl) (by omega) (w := w) (a := a) (n := len) hl (fun i hil => by
      obtain ⟨n, hf⟩ := hi i hil
      have hf2 : ∀ j t, [9, 3, 48][j]? = some t → ∃ v y, w.cell? (a.add (i * 3 + j)) = some v ∧ DataW.trod enc Tryz.prog w base spare held n t [v] = some y := by
        intro j t hj
        obtain ⟨f, e, rfl⟩ := field_at typesDt j t hj
        exact hf j f e
      obtain ⟨v0, y0, c0, t0⟩ := hf2 0 9 rfl
      obtain ⟨v1, y1, c1, t1⟩ := hf2 1 3 rfl
      obtain ⟨v2, y2, c2, t2⟩ := hf2 2 48 rfl
      obtain ⟨s, e0, _, hs⟩ := DataW.trod_string Tryz.underlying9 t0
      obtain ⟨n1, e1, _⟩ := DataW.trod_int Tryz.underlying3 t1
      obtain ⟨xs, hxs⟩ := open_ctorsq t2
      simp only [List.cons.injEq, and_true] at e0 e1
      subst e0 e1
      refine ⟨⟨s, n1, xs⟩, v2, fun j u hu => ?_, hxs, hs⟩
      match j, hu with
      | 0, hu => cases hu; exact c0
      | 1, hu => cases hu; exact c1
      | 2, hu => cases hu; exact c2)
    exact ⟨l, h1 ▸ h2 cap⟩
theorem datas_argq {b0 : Nat} {r : Go.Reach} {v : Value} {d : DataW H} {p : List MemPlace} (hv : Value.okWide Tryz.prog w r b0 22 v) (h : DataW.Trod enc Tryz.prog w base spare held 22 v d p) : ∃ l, RdDq (fun _ => True) w v l := by
  obtain ⟨A, len, cap, rfl⟩ := okWide_slice Tryz.underlying22 hv
  obtain ⟨fuel, h⟩ := h
  exact open_datasq (show DataW.trod enc Tryz.prog w base spare held fuel 22 [.slice A len cap] = some _ from h)
end
end Go.Proofs.YticnehmgaklhfaaGreatDoor
