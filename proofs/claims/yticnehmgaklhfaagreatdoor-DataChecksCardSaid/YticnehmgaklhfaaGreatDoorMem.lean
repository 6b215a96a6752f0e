/-
  Rows of rows, in memory: what a slice's value reads as.
-/
import Derived.Test.YticnehmgaklhfaaGreatDoorLib
import Derived.Test.YticnehmgaklhfaaGreatDoorMdl
namespace Go.Proofs.YticnehmgaklhfaaGreatDoor
open Go.RowKit
set_option maxHeartbeats 1000000
/-- A row whose elements are told by plain things and, where they hold slices, by these slices' values. -/
def RdR {α : Type} (T : Nat → Prop) (w : World) (f : α → Value → List Value) (R : World → Value → α → Prop) (v : Value) (xs : List α) : Prop :=
  ∃ (A : Option Addr) (c : Nat) (ps : List (α × Value)), v = .slice A xs.length c ∧ ps.map Prod.fst = xs ∧ Rd T w A (ps.flatMap fun p => f p.1 p.2) ∧ (∀ p ∈ ps, R w p.2 p.1) ∧ xs.length ≤ 9223372036854775807
section
variable {α : Type} {T T' : Nat → Prop} {w w' : World} {f : α → Value → List Value} {R R' : World → Value → α → Prop} {v : Value} {xs : List α}
theorem flat_at {β : Type} (g : β → List Value) (n : Nat) (hf : ∀ x, (g x).length = n) : ∀ (l : List β) (k j : Nat) (x : β), l[k]? = some x → j < n → (l.flatMap g)[k * n + j]? = (g x)[j]? := by
  intro l
  induction l with
  | nil => intro k j x h; simp at h
  | cons y l ih =>
    intro k j x h hj
    rw [List.flatMap_cons]
    cases k with
    | zero =>
      simp only [List.getElem?_cons_zero, Option.some.injEq] at h
      subst h
      rw [Nat.zero_mul, Nat.zero_add, List.getElem?_append_left (by rw [hf]; exact hj)]
    | succ k =>
      rw [List.getElem?_cons_succ] at h
      rw [List.getElem?_append_right (by rw [hf, Nat.succ_mul]; omega), hf, show (k + 1) * n + j - n = k * n + j by rw [Nat.succ_mul]; omega]
      exact ih k j x h hj
theorem RdR.val (h : RdR T w f R v xs) : ∃ A c, v = .slice A xs.length c := by
  obtain ⟨A, c, _, h, _⟩ := h
  exact ⟨A, c, h⟩
theorem RdR.big (h : RdR T w f R v xs) : xs.length ≤ 9223372036854775807 := by
  obtain ⟨_, _, _, _, _, _, _, h⟩ := h
  exact h
theorem RdR.mono (h : RdR T w f R v xs) (hT : ∀ b, T b → T' b) (hR : ∀ x ∈ xs, ∀ u, R w u x → R' w u x) : RdR T' w f R' v xs := by
  obtain ⟨A, c, ps, h1, h2, h3, h4, h5⟩ := h
  exact ⟨A, c, ps, h1, h2, h3.mono hT, fun p hp => hR _ (h2 ▸ List.mem_map_of_mem hp) _ (h4 p hp), h5⟩
theorem RdR.chg {S : Nat → Prop} (h : RdR T w f R v xs) (hc : Chg S w w') (hT : ∀ b, T b → b < w.heap.size → ¬ S b) (hR : ∀ x ∈ xs, ∀ u, R w u x → R' w' u x) : RdR T w' f R' v xs := by
  obtain ⟨A, c, ps, h1, h2, h3, h4, h5⟩ := h
  exact ⟨A, c, ps, h1, h2, h3.chg hc hT, fun p hp => hR _ (h2 ▸ List.mem_map_of_mem hp) _ (h4 p hp), h5⟩
theorem RdR.nil_ (T : Nat → Prop) (w : World) (A : Option Addr) (c : Nat) : RdR T w f R (.slice A 0 c) [] :=
  ⟨A, c, [], rfl, rfl, Rd.nil_ _ _ _, fun _ h => absurd h List.not_mem_nil, by simp⟩
/-- An element: its cells, and what its slices read as. -/
theorem RdR.at_ (h : RdR T w f R v xs) {n : Nat} (hn : ∀ x u, (f x u).length = n) (h0 : 0 < n) {k : Nat} {x : α} (hk : xs[k]? = some x) : ∃ b o c u, v = .slice (some ⟨b, o, none⟩) xs.length c ∧ T b ∧ R w u x ∧ ∀ j y, j < n → (f x u)[j]? = some y → w.cell? ⟨b, o + (k * n + j), none⟩ = some y := by
  obtain ⟨A, c, ps, h1, h2, h3, h4, h5⟩ := h
  rw [← h2, List.getElem?_map, Option.map_eq_some_iff] at hk
  obtain ⟨p, hp, rfl⟩ := hk
  have hne : (ps.flatMap fun p => f p.1 p.2) ≠ [] := by
    intro e
    have hl := flat_at (fun p : α × Value => f p.1 p.2) n (fun q => hn q.1 q.2) ps k 0 p hp h0
    rw [e] at hl
    have : (f p.1 p.2).length = n := hn _ _
    rw [List.getElem?_nil] at hl
    have := List.getElem?_eq_none_iff.1 hl.symm
    omega
  obtain ⟨b, o, rfl, ht, hc⟩ := h3.flat hne
  exact ⟨b, o, c, p.2, h1, ht, h4 p (List.mem_of_getElem? hp), fun j y hj hy => hc _ _ ((flat_at (fun p : α × Value => f p.1 p.2) n (fun q => hn q.1 q.2) ps k j p hp hj).trans hy)⟩
end
def ndv (n : Nd) (_ : Value) : List Value := [.int .i64 n.kind, .string n.text, .int .i64 n.num, .int .i64 n.kids]
def ndOk (n : Nd) : Prop := n.text.size ≤ 9223372036854775807
/-- A row of nodes. -/
def RdN (T : Nat → Prop) (w : World) (v : Value) (xs : List Nd) : Prop := RdR T w ndv (fun _ _ n => ndOk n) v xs
/-- A row of rows of nodes. -/
def RdNs (T : Nat → Prop) (w : World) (v : Value) (xs : List (List Nd)) : Prop := RdR T w (fun _ u => [u]) (fun w u t => RdN T w u t) v xs
/-- A row of constructors. -/
def RdC (T : Nat → Prop) (w : World) (v : Value) (xs : List Ct) : Prop := RdR T w (fun c u => [.string c.name, u]) (fun w u c => RdNs T w u c.args ∧ c.name.size ≤ 9223372036854775807) v xs
/-- A row of declarations. -/
def RdD (T : Nat → Prop) (w : World) (v : Value) (xs : List Dt) : Prop := RdR T w (fun d u => [.string d.name, .int .i64 d.params, u]) (fun w u d => RdC T w u d.cons ∧ d.name.size ≤ 9223372036854775807) v xs
/-- A row of names with their types. -/
def RdS (T : Nat → Prop) (w : World) (v : Value) (xs : List Sg) : Prop := RdR T w (fun s u => [.string s.name, u]) (fun w u s => RdN T w u s.type ∧ s.name.size ≤ 9223372036854775807) v xs
section
variable {T T' : Nat → Prop} {w w' : World} {S : Nat → Prop} {v : Value}
theorem RdN.mono {xs : List Nd} (h : RdN T w v xs) (hT : ∀ b, T b → T' b) : RdN T' w v xs := RdR.mono h hT (fun _ _ _ h => h)
theorem RdN.chg {xs : List Nd} (h : RdN T w v xs) (hc : Chg S w w') (hT : ∀ b, T b → b < w.heap.size → ¬ S b) : RdN T w' v xs := RdR.chg h hc hT (fun _ _ _ h => h)
theorem RdNs.mono {xs : List (List Nd)} (h : RdNs T w v xs) (hT : ∀ b, T b → T' b) : RdNs T' w v xs := RdR.mono h hT (fun _ _ _ h => h.mono hT)
theorem RdNs.chg {xs : List (List Nd)} (h : RdNs T w v xs) (hc : Chg S w w') (hT : ∀ b, T b → b < w.heap.size → ¬ S b) : RdNs T w' v xs := RdR.chg h hc hT (fun _ _ _ h => h.chg hc hT)
theorem RdC.mono {xs : List Ct} (h : RdC T w v xs) (hT : ∀ b, T b → T' b) : RdC T' w v xs := RdR.mono h hT (fun _ _ _ h => ⟨h.1.mono hT, h.2⟩)
theorem RdC.chg {xs : List Ct} (h : RdC T w v xs) (hc : Chg S w w') (hT : ∀ b, T b → b < w.heap.size → ¬ S b) : RdC T w' v xs := RdR.chg h hc hT (fun _ _ _ h => ⟨h.1.chg hc hT, h.2⟩)
theorem RdD.mono {xs : List Dt} (h : RdD T w v xs) (hT : ∀ b, T b → T' b) : RdD T' w v xs := RdR.mono h hT (fun _ _ _ h => ⟨h.1.mono hT, h.2⟩)
theorem RdD.chg {xs : List Dt} (h : RdD T w v xs) (hc : Chg S w w') (hT : ∀ b, T b → b < w.heap.size → ¬ S b) : RdD T w' v xs := RdR.chg h hc hT (fun _ _ _ h => ⟨h.1.chg hc hT, h.2⟩)
theorem RdS.mono {xs : List Sg} (h : RdS T w v xs) (hT : ∀ b, T b → T' b) : RdS T' w v xs := RdR.mono h hT (fun _ _ _ h => ⟨h.1.mono hT, h.2⟩)
theorem RdS.chg {xs : List Sg} (h : RdS T w v xs) (hc : Chg S w w') (hT : ∀ b, T b → b < w.heap.size → ¬ S b) : RdS T w' v xs := RdR.chg h hc hT (fun _ _ _ h => ⟨h.1.chg hc hT, h.2⟩)
/-- A node's cells. -/
theorem RdN.at_ {xs : List Nd} (h : RdN T w v xs) {k : Nat} {n : Nd} (hk : xs[k]? = some n) : ∃ b o c, v = .slice (some ⟨b, o, none⟩) xs.length c ∧ T b ∧ ndOk n ∧ w.cell? ⟨b, o + k * 4, none⟩ = some (.int .i64 n.kind) ∧ w.cell? ⟨b, o + k * 4 + 1, none⟩ = some (.string n.text) ∧ w.cell? ⟨b, o + k * 4 + 2, none⟩ = some (.int .i64 n.num) ∧ w.cell? ⟨b, o + k * 4 + 3, none⟩ = some (.int .i64 n.kids) := by
  obtain ⟨b, o, c, u, h1, h2, h3, h4⟩ := RdR.at_ h (n := 4) (fun _ _ => rfl) (by omega) hk
  exact ⟨b, o, c, h1, h2, h3, h4 0 _ (by omega) rfl, by rw [Nat.add_assoc]; exact h4 1 _ (by omega) rfl, by rw [Nat.add_assoc]; exact h4 2 _ (by omega) rfl, by rw [Nat.add_assoc]; exact h4 3 _ (by omega) rfl⟩
theorem RdNs.at_ {xs : List (List Nd)} (h : RdNs T w v xs) {k : Nat} {t : List Nd} (hk : xs[k]? = some t) : ∃ b o c u, v = .slice (some ⟨b, o, none⟩) xs.length c ∧ T b ∧ RdN T w u t ∧ w.cell? ⟨b, o + k, none⟩ = some u := by
  obtain ⟨b, o, c, u, h1, h2, h3, h4⟩ := RdR.at_ h (n := 1) (fun _ _ => rfl) (by omega) hk
  exact ⟨b, o, c, u, h1, h2, h3, by have := h4 0 _ (by omega) rfl; rw [Nat.mul_one, Nat.add_zero] at this; exact this⟩
theorem RdC.at_ {xs : List Ct} (h : RdC T w v xs) {k : Nat} {x : Ct} (hk : xs[k]? = some x) : ∃ b o c u, v = .slice (some ⟨b, o, none⟩) xs.length c ∧ T b ∧ RdNs T w u x.args ∧ x.name.size ≤ 9223372036854775807 ∧ w.cell? ⟨b, o + k * 2, none⟩ = some (.string x.name) ∧ w.cell? ⟨b, o + k * 2 + 1, none⟩ = some u := by
  obtain ⟨b, o, c, u, h1, h2, h3, h4⟩ := RdR.at_ h (n := 2) (fun _ _ => rfl) (by omega) hk
  exact ⟨b, o, c, u, h1, h2, h3.1, h3.2, h4 0 _ (by omega) rfl, by rw [Nat.add_assoc]; exact h4 1 _ (by omega) rfl⟩
theorem RdD.at_ {xs : List Dt} (h : RdD T w v xs) {k : Nat} {x : Dt} (hk : xs[k]? = some x) : ∃ b o c u, v = .slice (some ⟨b, o, none⟩) xs.length c ∧ T b ∧ RdC T w u x.cons ∧ x.name.size ≤ 9223372036854775807 ∧ w.cell? ⟨b, o + k * 3, none⟩ = some (.string x.name) ∧ w.cell? ⟨b, o + k * 3 + 1, none⟩ = some (.int .i64 x.params) ∧ w.cell? ⟨b, o + k * 3 + 2, none⟩ = some u := by
  obtain ⟨b, o, c, u, h1, h2, h3, h4⟩ := RdR.at_ h (n := 3) (fun _ _ => rfl) (by omega) hk
  exact ⟨b, o, c, u, h1, h2, h3.1, h3.2, h4 0 _ (by omega) rfl, by rw [Nat.add_assoc]; exact h4 1 _ (by omega) rfl, by rw [Nat.add_assoc]; exact h4 2 _ (by omega) rfl⟩
theorem RdS.at_ {xs : List Sg} (h : RdS T w v xs) {k : Nat} {x : Sg} (hk : xs[k]? = some x) : ∃ b o c u, v = .slice (some ⟨b, o, none⟩) xs.length c ∧ T b ∧ RdN T w u x.type ∧ x.name.size ≤ 9223372036854775807 ∧ w.cell? ⟨b, o + k * 2, none⟩ = some (.string x.name) ∧ w.cell? ⟨b, o + k * 2 + 1, none⟩ = some u := by
  obtain ⟨b, o, c, u, h1, h2, h3, h4⟩ := RdR.at_ h (n := 2) (fun _ _ => rfl) (by omega) hk
  exact ⟨b, o, c, u, h1, h2, h3.1, h3.2, h4 0 _ (by omega) rfl, by rw [Nat.add_assoc]; exact h4 1 _ (by omega) rfl⟩
end
end Go.Proofs.YticnehmgaklhfaaGreatDoor
