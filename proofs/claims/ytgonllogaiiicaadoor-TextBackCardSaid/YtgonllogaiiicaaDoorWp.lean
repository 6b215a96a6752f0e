/-
  Layer 17: what text.Show is built of: a builder, arrays told by a function, numbers.
-/
import Derived.Test.YtgonllogaiiicaaDoorWn
import Derived.Shelf.Strings.BuilderK
import Derived.Lib.OthersKept
namespace Go.Proofs.YtgonllogaiiicaaDoor
open Go.RowKit
set_option maxHeartbeats 4000000
set_option maxRecDepth 100000
/-- What a builder's own calls keep. -/
def KB (B b : Nat) (w w' : World) : Prop := Below B w w' ∧ Lib.OthersKept 5 (some b) w w'
theorem KB.blk {B b : Nat} {w w' : World} (h : KB B b w w') {g : Nat} {t : TypeId} {cs : Array Value} (hg : Blk w g t cs) (ht : t ≠ 5) (hne : g ≠ b) : Blk w' g t cs :=
  h.2 g _ hg (fun e => hne (by injection e)) (fun c fz e => ht (by injection e))
theorem KB.size {B b : Nat} {w w' : World} (h : KB B b w w') : w.heap.size ≤ w'.heap.size := h.1.size
theorem KB.lo {B b : Nat} {w w' : World} (h : KB B b w w') : Chg (fun j => B ≤ j) w w' := ⟨h.1.os, h.1.tape, h.1.output, h.1.size, fun i hi hn => h.1.block i (by omega)⟩
/-- A builder whose text is bs. -/
def Bld (b : Nat) (bs : Bs) (w : World) : Prop := Lib.IsBuilderF 58 5 b b (Lib.byteCells bs) w
theorem Bld.chg {b : Nat} {bs : Bs} {w w' : World} (h : Bld b bs w) (hc : Chg (fun _ => False) w w') : Bld b bs w' := by
  have key : ∀ p, Lib.BuilderAtF 58 5 b b p (Lib.byteCells bs) w → Lib.BuilderAtF 58 5 b b p (Lib.byteCells bs) w' := by
    rintro p ⟨hB, v, hb, hown, hne⟩
    have hlt : b < w.heap.size := by
      rcases Nat.lt_or_ge b w.heap.size with h | h
      · exact h
      · rw [Array.getElem?_eq_none h] at hb; cases hb
    refine ⟨hB, v, (hc.block b hlt id).trans hb, ⟨hown.1, ?_⟩, hne⟩
    rcases hown.2 with h0 | ⟨g, cap, cur, fz, h1, h2, h3, h4⟩
    · exact .inl h0
    · have hgl : g < w.heap.size := by
        rcases Nat.lt_or_ge g w.heap.size with h | h
        · exact h
        · rw [Array.getElem?_eq_none h] at h3; cases h3
      exact .inr ⟨g, cap, cur, fz, h1, h2, (hc.block g hgl id).trans h3, h4⟩
  exact h.elim (fun x => .inl (key _ x)) (fun x => .inr (key _ x))
theorem Bld.lt {b : Nat} {bs : Bs} {w : World} (h : Bld b bs w) : b < w.heap.size := h.elim (·.lt) (·.lt)
theorem ws_any (b : Nat) (bs : Bs) (X : ByteArray) (w : World) (h : Bld b bs w) (hlen : bs.length + X.size ≤ 140737488355328) :
    Calls Tryd.prog 28 #[.pointer (some ⟨b, 0, none⟩), .string X] w fun e w' => e = .returned (.tuple #[.int .i64 X.size, .nilIface]) ∧ Bld b (bs ++ X.data.toList) w' ∧ KB b b w w' :=
  (Go.Proofs.Any.Builder_WriteString_k { Tryd.lays156 with } Tryd.Builder_Extra_156 b b (Lib.byteCells bs) X w h (by rw [Lib.byteCells_length]; exact hlen) (Nat.le_of_lt h.lt)).mono fun e w' ⟨h1, h2, h3, h4⟩ =>
    ⟨h1, .inr (by rw [Lib.byteCells_append]; exact h2), h3, h4⟩
theorem wb_any (b : Nat) (bs : Bs) (w : World) (h : Bld b bs w) (hlen : bs.length + 1 ≤ 140737488355328) :
    Calls Tryd.prog 31 #[.pointer (some ⟨b, 0, none⟩), .int .u8 10] w fun e w' => e = .returned .nilIface ∧ Bld b (bs ++ [10]) w' ∧ KB b b w w' :=
  (Go.Proofs.Any.Builder_WriteByte_k Tryd.lays167 Tryd.Builder_Extra_167 b b (Lib.byteCells bs) 10 w h (by rw [Lib.byteCells_length]; exact hlen) (Nat.le_of_lt h.lt)).mono fun e w' ⟨h1, h2, h3, h4⟩ =>
    ⟨h1, .inr (by rw [Lib.byteCells_append]; exact h2), h3, h4⟩
theorem bs_any (b : Nat) (bs : Bs) (w : World) (h : Bld b bs w) : Calls Tryd.prog 32 #[.pointer (some ⟨b, 0, none⟩)] w fun e w' => e = .returned (.string ⟨bs.toArray⟩) ∧ KB b b w w' := by
  cases bs with
  | nil => exact (Go.Proofs.Any.Builder_String_empty_k Tryd.lays169 Tryd.Builder_Extra_169 b b w h (Nat.le_of_lt h.lt)).mono fun e w' ⟨h1, _, h3, h4⟩ => ⟨h1, h3, h4⟩
  | cons x r => exact (Go.Proofs.Any.Builder_String_k Tryd.lays169 Tryd.Builder_Extra_169 b b (x :: r) w h (by simp)).mono fun e w' ⟨h1, _, h3, h4⟩ => ⟨h1, h3, h4⟩
theorem chg_grow (w : World) (k : Nat) (os : Array Obj) : Chg (fun _ => False) w (Go.Sort.grow (w.drewN k) os) :=
  ⟨rfl, rfl, rfl, by show w.heap.size ≤ (w.heap ++ os).size; rw [Array.size_append]; omega, fun i hi _ => by
    show (w.heap ++ os)[i]? = w.heap[i]?
    rw [Array.getElem?_append_left hi]⟩
/-- A number's digits. -/
theorem itoa_any (n : Nat) (hn : n ≤ 1000000000) (w : World) (hl : Lay w) : Calls Tryd.prog 27 #[.int .i64 (n : Int)] w fun e w' => e = .returned (.string ⟨(Lib.decDigits n).toArray⟩) ∧ Chg (fun _ => False) w w' :=
  (Tryd.strconv_Itoa (n : Int) (by omega) (by omega) w hl.pow).mono fun e w' ⟨h1, k, os, h2⟩ => by
    refine ⟨?_, ?_⟩
    · rw [h1, Lib.itoa, if_neg (by omega)]; rfl
    · rw [h2]; exact chg_grow w k os
/-- An array told by a function. -/
def fnA (n : Nat) (f : Nat → Value) : Array Value := ((List.range n).map f).toArray
theorem fnA_get {n k : Nat} (f : Nat → Value) (h : k < n) : (fnA n f)[k]? = some (f k) := by
  unfold fnA
  rw [List.getElem?_toArray, List.getElem?_map, List.getElem?_range h]; rfl
theorem fnA_ext {n : Nat} {f g : Nat → Value} (h : ∀ j, j < n → f j = g j) : fnA n f = fnA n g := by
  unfold fnA
  rw [List.map_congr_left (fun j hj => h j (List.mem_range.1 hj))]
theorem fnA_set {n k : Nat} (f : Nat → Value) (v : Value) : (fnA n f).setIfInBounds k v = fnA n (fun j => if j = k then v else f j) := by
  unfold fnA
  apply Array.ext_getElem?
  intro j
  rw [List.setIfInBounds_toArray, List.getElem?_toArray, List.getElem?_toArray, List.getElem?_set, List.length_map, List.length_range, List.getElem?_map, List.getElem?_map]
  by_cases hj : k = j
  · subst hj
    rw [if_pos rfl]
    by_cases hk : k < n
    · rw [if_pos hk, List.getElem?_range hk]; simp
    · rw [if_neg hk, List.getElem?_eq_none (by simpa using hk)]; rfl
  · rw [if_neg hj]
    by_cases hk : j < n
    · rw [List.getElem?_range hk]; simp [show ¬ j = k from fun e => hj e.symm]
    · rw [List.getElem?_eq_none (by simpa using hk)]; rfl
theorem fnA_made (n : Nat) (z : Value) : madeCells #[z] (n * 1) = fnA n (fun _ => z) := by
  unfold fnA madeCells
  apply Array.ext_getElem?
  intro j
  by_cases hk : j < n
  · simp [hk, Nat.mod_one]
  · simp [hk]
end Go.Proofs.YtgonllogaiiicaaDoor
