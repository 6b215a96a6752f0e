/-
  Layer 17, the document's side: the scan for a name; a word's cells.
-/
import Derived.Test.YtgonllogaiiicaaDoorRsh
import Derived.Test.YtgonllogaiiicaaDoorRb
import Derived.Test.YtgonllogaiiicaaDoorM03
namespace Go.Proofs.YtgonllogaiiicaaDoor
open Go.RowKit
set_option maxHeartbeats 4000000
set_option maxRecDepth 100000
/-- The last of the first names that is this one; -1. -/
def scanO (s : Bs) : Nat → Int
  | 0 => -1
  | k + 1 => if (opNames.getD k [] == s) = true then (k : Int) else scanO s k
theorem scanO_no {s : Bs} : ∀ k, (∀ j, j < k → opNames.getD j [] ≠ s) → scanO s k = -1
  | 0, _ => rfl
  | k + 1, h => by
    rw [scanO, if_neg (by simpa using h k (by omega))]
    exact scanO_no k (fun j hj => h j (by omega))
/-- What the scan comes to. -/
def findI (s : Bs) : Int := match findOp s with
  | some o => o
  | none => -1
theorem scanO_all (s : Bs) : scanO s 21 = findI s := by
  unfold findI
  cases h : findOp s with
  | none =>
    refine scanO_no 21 fun j hj e => ?_
    unfold findOp at h
    rw [List.findIdx?_eq_none_iff] at h
    have hl : j < opNames.length := hj
    have := h opNames[j] (List.getElem_mem hl)
    rw [List.getD_eq_getElem?_getD, List.getElem?_eq_getElem hl, Option.getD_some] at e
    rw [e] at this
    simp at this
  | some o =>
    have ho : o < 21 := by have := findOp_le h; omega
    have hs : s = opNames.getD o [] := by
      unfold findOp at h
      rw [List.findIdx?_eq_some_iff_getElem] at h
      obtain ⟨hl, h1, _⟩ := h
      rw [List.getD_eq_getElem?_getD, List.getElem?_eq_getElem hl, Option.getD_some]
      exact (beq_iff_eq.1 h1).symm
    rw [hs]
    have key : ∀ k : Fin 21, scanO (opNames.getD k.1 []) 21 = ((k.1 : Nat) : Int) := by decide +kernel
    exact key ⟨o, ho⟩
theorem words_at {T : Nat → Prop} {w : World} {A : Option Addr} {l : List (Bs × Nat)} (h : Rd T w A (l.flatMap wv)) (hn : l ≠ []) : ∃ b o, A = some ⟨b, o, none⟩ ∧ T b ∧ ∀ k x, l[k]? = some x → w.cell? ⟨b, o + k * 2, none⟩ = some (.string ⟨x.1.toArray⟩) ∧ w.cell? ⟨b, o + k * 2 + 1, none⟩ = some (.int .i64 (x.2 : Int)) := by
  obtain ⟨b, o, hA, hT, hc⟩ := h.flat (by
    intro e
    rcases l with _ | ⟨x, l⟩
    · exact hn rfl
    · simp [wv] at e)
  refine ⟨b, o, hA, hT, fun k i hi => ?_⟩
  have hg := fun j (hj : j < 2) => flat_get wv 2 (fun _ => rfl) l k j i hi hj
  exact ⟨hc _ _ (hg 0 (by omega)), by rw [Nat.add_assoc]; exact hc _ _ (hg 1 (by omega))⟩
theorem names_all (k : Nat) (h : k < 21) (W : World) : Calls Tryd.prog 37 #[] W fun e w' => ∃ q : Nat, e = .returned (.slice (some ⟨q, 0, none⟩) 21 21) ∧ w'.cell? ⟨q, k, none⟩ = some (.string ⟨(opNames.getD k []).toArray⟩) ∧ Chg (fun _ => False) W w' :=
  (names_row k (by omega) W).mono fun e w' ⟨q, h1, h2, h3⟩ => ⟨q, h1, by rw [opName, Int.toNat_natCast] at h2; exact h2, h3⟩
theorem last_byte {X : ByteArray} (h : 0 < X.size) : X.data.toList.getLast? = some (X[X.size - 1]'(by omega)) := by
  rw [List.getLast?_eq_getElem?]
  have : X.data.toList.length = X.size := rfl
  rw [this]
  exact byte_at X (X.size - 1) (by omega)
theorem cut_byte {X : ByteArray} (_h : 0 < X.size) : X.extract 0 (X.size - 1) = ⟨X.data.toList.dropLast.toArray⟩ := by
  apply ByteArray.ext
  apply Array.ext'
  rw [ByteArray.data_extract, Array.toList_extract]
  simp only [List.extract, List.drop_zero, Nat.sub_zero, List.dropLast_eq_take]
  rfl
end Go.Proofs.YtgonllogaiiicaaDoor
