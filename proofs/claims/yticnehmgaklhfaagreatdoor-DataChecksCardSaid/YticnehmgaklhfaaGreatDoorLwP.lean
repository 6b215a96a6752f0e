/-
  Layer 10, the law on the parts of a type of a function: it is true of all types.
-/
import Derived.Test.YticnehmgaklhfaaGreatDoorAwk2
import Derived.Test.YticnehmgaklhfaaGreatDoorCpy
namespace Go.Proofs.YticnehmgaklhfaaGreatDoor
open Go.RowKit
set_option maxHeartbeats 1000000
set_option maxRecDepth 100000
theorem typE_zero {l : List Nd} : typE l = 0 ↔ typB l = true := by
  unfold typE
  cases typB l <;> simp
theorem few_len {l : List Nd} (h : fewN l = true) : l.length ≤ 60 := by
  unfold fewN at h
  rw [Bool.and_eq_true, decide_eq_true_eq] at h
  exact h.1
theorem typB_cons {l : List Nd} (h : typB l = true) : ∃ n m, l = n :: m := by
  have := (typ_ok h).2.1
  cases l with
  | nil => cases this
  | cons n m => exact ⟨n, m, rfl⟩
theorem arrow_size : ∀ (args : List (List Nd)) (to_ : List Nd) (k : Nat), (∀ a ∈ args, a.length ≤ k) → (arrowL args to_).length ≤ args.length * (k + 1) + to_.length
  | [], _, _, _ => by simp [arrowL]
  | a :: args, to_, k, h => by
    have e : arrowL (a :: args) to_ = ⟨32, ArrowT, 0, 2⟩ :: (a ++ arrowL args to_) := rfl
    have h1 := arrow_size args to_ k (fun b hb => h b (List.mem_cons_of_mem _ hb))
    have h2 := h a List.mem_cons_self
    rw [e, List.length_cons, List.length_append, List.length_cons, Nat.succ_mul]
    omega
/-- The parts of an arrow of types that may be. -/
theorem parts_back {args : List (List Nd)} {n : Nd} {l : List Nd} (h10 : args.length ≤ 10) (ha : ∀ a ∈ args, a.length ≤ 60 ∧ typB a = true) (h0 : l[0]? = some n) (ht : typB l = true) (hl : l.length ≤ 60) (hn : n.text ≠ ArrowT) : partsR (arrowL args l) = (args, l) := by
  obtain ⟨n', m, rfl⟩ := typB_cons ht
  obtain rfl : n' = n := by simpa using h0
  have hw : typB (arrowL args (n' :: m)) = true := by
    unfold typB
    rw [arrow_whole args _ (fun a h => (typ_ok (ha a h).2).2.1) (typ_ok ht).2.1, arrow_nodes (fun a h => (typ_ok (ha a h).2).2.2) (typ_ok ht).2.2, decide_eq_true]
    · rfl
    · have h1 := arrow_size args (n' :: m) 60 (fun a h => (ha a h).1)
      have h2 : args.length * (60 + 1) ≤ 10 * 61 := Nat.mul_le_mul_right _ h10
      omega
  unfold partsR
  rw [hw, if_pos rfl]
  exact parts_arrow args n' m (fun a h => (typ_ok (ha a h).2).2.1) hn
end Go.Proofs.YticnehmgaklhfaaGreatDoor
