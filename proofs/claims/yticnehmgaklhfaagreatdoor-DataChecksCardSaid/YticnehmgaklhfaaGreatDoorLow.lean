/-
  What is read lies in memory that is there.
-/
import Derived.Test.YticnehmgaklhfaaGreatDoorMem
namespace Go.Proofs.YticnehmgaklhfaaGreatDoor
open Go.RowKit
section
variable {T : Nat → Prop} {w : World} {A : Option Addr} {xs : List Value} {v : Value}
theorem Rd.low (h : Rd T w A xs) : Rd (fun b => T b ∧ b < w.heap.size) w A xs := fun hn => by
  obtain ⟨ad, e, ht, hc⟩ := h hn
  obtain ⟨x, r, rfl⟩ := List.exists_cons_of_ne_nil hn
  have h0 := block_lt_of_cell (hc 0 x rfl)
  rw [block_of_add] at h0
  exact ⟨ad, e, ⟨ht, h0⟩, hc⟩
theorem RdR.low {α : Type} {f : α → Value → List Value} {R R' : World → Value → α → Prop} {l : List α} (h : RdR T w f R v l) (hR : ∀ x ∈ l, ∀ u, R w u x → R' w u x) : RdR (fun b => T b ∧ b < w.heap.size) w f R' v l := by
  obtain ⟨A, c, ps, h1, h2, h3, h4, h5⟩ := h
  exact ⟨A, c, ps, h1, h2, h3.low, fun p hp => hR _ (h2 ▸ List.mem_map_of_mem hp) _ (h4 p hp), h5⟩
theorem RdN.low {l : List Nd} (h : RdN T w v l) : RdN (fun b => T b ∧ b < w.heap.size) w v l := RdR.low h (fun _ _ _ h => h)
theorem RdNs.low {l : List (List Nd)} (h : RdNs T w v l) : RdNs (fun b => T b ∧ b < w.heap.size) w v l := RdR.low h (fun _ _ _ h => h.low)
theorem RdC.low {l : List Ct} (h : RdC T w v l) : RdC (fun b => T b ∧ b < w.heap.size) w v l := RdR.low h (fun _ _ _ h => ⟨h.1.low, h.2⟩)
theorem RdD.low {l : List Dt} (h : RdD T w v l) : RdD (fun b => T b ∧ b < w.heap.size) w v l := RdR.low h (fun _ _ _ h => ⟨h.1.low, h.2⟩)
theorem RdS.low {l : List Sg} (h : RdS T w v l) : RdS (fun b => T b ∧ b < w.heap.size) w v l := RdR.low h (fun _ _ _ h => ⟨h.1.low, h.2⟩)
end
end Go.Proofs.YticnehmgaklhfaaGreatDoor
