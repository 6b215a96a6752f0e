/-
  Layer 17, the document's side: lines of a text.
-/
import Derived.Test.YtgonllogaiiicaaDoorRa
namespace Go.Proofs.YtgonllogaiiicaaDoor
open Go.RowKit
set_option maxHeartbeats 2000000
set_option maxRecDepth 100000
def bv (s : Bs) : Value := .string ⟨s.toArray⟩
theorem infoSt : (Tryd.prog.info? 9).map (fun i => (i.zero, i.size, i.bytes)) = some (some (.string ⟨#[]⟩), 1, 16) := by kernel_rfl
/-- What has come of the first bytes: the lines that have ended, and the one that has begun. -/
def lnS : Bs → List Bs × Bs
  | s => (s.foldl (fun (p : List Bs × Bs) c => if c = 10 then (p.1 ++ [p.2], []) else (p.1, p.2 ++ [c])) ([], []))
theorem lnS_snoc (s : Bs) (c : UInt8) : lnS (s ++ [c]) = if c = 10 then ((lnS s).1 ++ [(lnS s).2], []) else ((lnS s).1, (lnS s).2 ++ [c]) := by
  unfold lnS
  rw [List.foldl_append]
  rfl
theorem lnS_all (s : Bs) : ∀ (L : List Bs) (now : Bs), (s.foldl (fun (p : List Bs × Bs) c => if c = 10 then (p.1 ++ [p.2], []) else (p.1, p.2 ++ [c])) (L, now)).1 ++ [(s.foldl (fun (p : List Bs × Bs) c => if c = 10 then (p.1 ++ [p.2], []) else (p.1, p.2 ++ [c])) (L, now)).2] = L ++ linesA s now := by
  induction s with
  | nil => intro L now; simp [linesA]
  | cons c r ih =>
    intro L now
    rw [List.foldl_cons, linesA]
    by_cases hc : c = 10
    · rw [if_pos hc, if_pos hc, ih]
      simp
    · rw [if_neg hc, if_neg hc, ih]
theorem lnS_lines (s : Bs) : (lnS s).1 ++ [(lnS s).2] = linesL s := by
  have := lnS_all s [] []
  rw [List.nil_append] at this
  exact this
theorem lnS_len (s : Bs) : (lnS s).1.length + (lnS s).2.length ≤ s.length := by
  unfold lnS
  have : ∀ (r : Bs) (L : List Bs) (now : Bs), (r.foldl (fun (p : List Bs × Bs) c => if c = 10 then (p.1 ++ [p.2], []) else (p.1, p.2 ++ [c])) (L, now)).1.length + (r.foldl (fun (p : List Bs × Bs) c => if c = 10 then (p.1 ++ [p.2], []) else (p.1, p.2 ++ [c])) (L, now)).2.length ≤ L.length + now.length + r.length := by
    intro r
    induction r with
    | nil => intro L now; simp
    | cons c r ih =>
      intro L now
      rw [List.foldl_cons]
      split
      · have := ih (L ++ [now]) []
        simp at this ⊢
        omega
      · have := ih L (now ++ [c])
        simp at this ⊢
        omega
  have := this s [] []
  simpa using this
theorem take_snoc' {α : Type} {l : List α} {k : Nat} {x : α} (h : l[k]? = some x) : l.take (k + 1) = l.take k ++ [x] := by
  obtain ⟨hk, rfl⟩ := List.getElem?_eq_some_iff.1 h
  exact List.take_succ_eq_append_getElem hk
theorem extract_one (s : ByteArray) (k : Nat) (h : k < s.size) : s.extract k (k + 1) = ⟨[s[k]].toArray⟩ := by
  apply ByteArray.ext
  apply Array.ext'
  have e := byte_at s k h
  rw [ByteArray.data_extract, Array.toList_extract]
  simp only [List.extract, Nat.add_sub_cancel_left]
  obtain ⟨h1, h2⟩ := List.getElem?_eq_some_iff.1 e
  rw [List.drop_eq_getElem_cons h1, h2]
  simp
end Go.Proofs.YtgonllogaiiicaaDoor
