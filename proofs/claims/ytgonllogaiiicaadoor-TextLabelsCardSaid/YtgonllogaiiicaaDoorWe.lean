/-
  Layer 17: strings.SplitSeq at a blank: its iterator keeps what is left in a cell of its own.
-/
import Derived.RangeFuncBox
import Derived.RangeFuncLeaves
import Derived.Shelf.Abstract
import Derived.WalkKit
import Derived.OwnWalkIn
import Derived.TacticsInMore
import Derived.LoopNIn
import Derived.LoopIn
import Derived.Maps.AppendAt
import Derived.Test.YtgonllogaiiicaaDoorRfc
import Derived.Test.YtgonllogaiiicaaDoorTme
import Derived.Test.YtgonllogaiiicaaDoorWd
namespace Go.Proofs.YtgonllogaiiicaaDoor
open Go Go.RowKit Go.Shelf
attribute [local go_sem] Oper.semAt_some
set_option maxHeartbeats 2000000
set_option maxRecDepth 100000
theorem ib_one (c : UInt8) : ∀ s : Bs, (Lib.indexByte s c = -1 ∧ ∀ d ∈ s, d ≠ c) ∨ ∃ u v, s = u ++ c :: v ∧ (∀ d ∈ u, d ≠ c) ∧ Lib.indexByte s c = u.length
  | [] => .inl ⟨rfl, by simp⟩
  | b :: l => by
    by_cases h : b = c
    · subst h
      exact .inr ⟨[], l, rfl, by simp, by rw [Lib.indexByte, if_pos (by simp)]; rfl⟩
    · have hp : ¬ ((b == c) = true) := by simpa using h
      rcases ib_one c l with ⟨h1, h2⟩ | ⟨u, v, rfl, h2, h3⟩
      · refine .inl ⟨by rw [Lib.indexByte, if_neg hp, if_pos (by rw [h1]; rfl)], ?_⟩
        intro d hd
        rcases List.mem_cons.1 hd with rfl | hd
        · exact h
        · exact h2 d hd
      · refine .inr ⟨b :: u, v, rfl, ?_, ?_⟩
        · intro d hd
          rcases List.mem_cons.1 hd with rfl | hd
          · exact h
          · exact h2 d hd
        · rw [Lib.indexByte, if_neg hp, if_neg (by rw [h3]; simp), h3]; simp
/-- What is left behind the next blank. -/
def behind1 : Bs → Bs
  | [] => []
  | c :: r => if c = 32 then r else behind1 r
theorem behind1_app (u v : Bs) (h : ∀ d ∈ u, d ≠ 32) : behind1 (u ++ 32 :: v) = v := by
  induction u with
  | nil => rfl
  | cons c u ih =>
    rw [List.cons_append, behind1, if_neg (h c (by simp)), ih (fun d hd => h d (by simp [hd]))]
def restA : Nat → Bs → Bs
  | 0, s => s
  | k + 1, s => behind1 (restA k s)
def pieces (s : Bs) : List Bs := blanksA s []
theorem pieces_ne (s : Bs) : 0 < (pieces s).length := by
  rcases index_one 32 s with ⟨_, h⟩ | ⟨u, v, rfl, h, _⟩
  · rw [pieces, blanks_one h]; simp
  · rw [pieces, blanks_next h]; simp
theorem pieces_drop (s : Bs) : ∀ k, k < (pieces s).length → (pieces s).drop k = pieces (restA k s)
  | 0, _ => rfl
  | k + 1, h => by
    have ih := pieces_drop s k (by omega)
    have h2 : (pieces s).drop (k + 1) = ((pieces s).drop k).drop 1 := by rw [List.drop_drop]
    rw [h2, ih, restA]
    rcases index_one 32 (restA k s) with ⟨_, hn⟩ | ⟨u, v, e, hn, _⟩
    · have := congrArg List.length ih
      rw [pieces, pieces, blanks_one hn, List.length_drop] at this
      simp [pieces] at this h; omega
    · rw [e, behind1_app u v hn, pieces, blanks_next hn, pieces]; rfl
def pieceB (s : Bs) (k : Nat) : ByteArray := ⟨((pieces s).getD k []).toArray⟩
def restB (s : Bs) (k : Nat) : ByteArray := ⟨(restA k s).toArray⟩
/-- Round k: the last one. -/
theorem piece_last {s : Bs} {k : Nat} (hk : k < (pieces s).length) (h : ∀ d ∈ restA k s, d ≠ 32) : k = (pieces s).length - 1 ∧ pieceB s k = restB s k := by
  have hd := pieces_drop s k hk
  rw [pieces, pieces, blanks_one h] at hd
  have h1 := congrArg List.length hd
  have h2 := congrArg (fun l => l.getD 0 []) hd
  rw [List.length_drop] at h1
  simp only [List.getD_eq_getElem?_getD, List.getElem?_drop, Nat.add_zero] at h2
  refine ⟨by simp [pieces] at *; omega, ?_⟩
  rw [pieceB, restB, List.getD_eq_getElem?_getD, pieces, h2]; rfl
theorem piece_next {s u v : Bs} {k : Nat} (hk : k < (pieces s).length) (e : restA k s = u ++ 32 :: v) (h : ∀ d ∈ u, d ≠ 32) : k + 1 < (pieces s).length ∧ pieceB s k = (restB s k).extract 0 u.length ∧ restB s (k + 1) = (restB s k).extract (u.length + 1) (restB s k).size := by
  have hd := pieces_drop s k hk
  rw [e, pieces, pieces, blanks_next h] at hd
  have h1 := congrArg List.length hd
  have h2 := congrArg (fun l => l.getD 0 []) hd
  have h3 := pieces_ne v
  rw [List.length_drop] at h1
  simp only [List.getD_eq_getElem?_getD, List.getElem?_drop, Nat.add_zero] at h2
  refine ⟨by simp [pieces] at *; omega, ?_, ?_⟩
  · rw [pieceB, List.getD_eq_getElem?_getD, pieces, h2, restB, e]
    apply ByteArray.ext
    apply Array.toList_inj.1
    rw [Lib.extract_from_zero]; simp
  · rw [restB, restA, e, behind1_app u v h, restB, e]
    apply ByteArray.ext
    apply Array.toList_inj.1
    rw [Lib.extract_to_end]
    simp
end Go.Proofs.YtgonllogaiiicaaDoor
