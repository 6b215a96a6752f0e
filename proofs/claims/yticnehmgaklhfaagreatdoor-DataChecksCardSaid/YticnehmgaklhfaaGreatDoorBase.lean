/-
  Small things that all walks of this seat lean on; and what the program's own tables hold.
-/
import Derived.Test.YticnehmgaklhfaaGreatDoorLib
import Derived.Test.YticnehmgaklhfaaGreatDoorTok
import Derived.Test.YticnehmgaklhfaaGreatDoorShelf
import Derived.Test.YticnehmgaklhfaaGreatDoorProg
import Derived.Deep.QuietTactic
import Derived.BigQuiet
import Derived.WalkLawsBesides
import Derived.Laws.BitsAllLaws
import Derived.Lib.QuietBelow
namespace Go.Proofs.YticnehmgaklhfaaGreatDoor
open Go.RowKit
set_option maxHeartbeats 400000
set_option maxRecDepth 100000
theorem w64 (x : Int) (h : -9223372036854775808 ≤ x ∧ x ≤ 9223372036854775807) : wrap64 x = x := IntWalk.wrap64_in x h
theorem qw {k : Nat} {args : Array Value} {w : World} {v : Value} (h : Calls Tryz.prog k args w fun e w' => e = .returned v ∧ w = w') : Calls Tryz.prog k args w fun e w' => e = .returned v ∧ w' = w := h.mono (fun _ _ h => ⟨h.1, h.2.symm⟩)
theorem rq {k : Nat} {args : Array Value} {W : World} {v : Value} (h : Calls Tryz.prog k args W fun e w' => e = .returned v ∧ Chg (fun _ => False) W w') : Calls Tryz.prog k args W fun e w' => e = .returned v ∧ Below W.heap.size W w' :=
  h.mono (fun _ _ h => ⟨h.1, h.2.below (Nat.le_refl _) (fun _ _ h => h.elim)⟩)
theorem chg_regrown (w : World) (d : Nat) (os : Array Obj) : Chg (fun _ => False) w (Go.Sort.grow (redrawn w d) os) := Chg.of_below (below_regrown w d os) _
theorem range_any_succ (f : Nat → Bool) (k : Nat) : (List.range (k + 1)).any f = ((List.range k).any f || f k) := by
  rw [List.range_succ, List.any_append]
  simp
theorem cell_alloc {w : World} {a : Addr} {v : Value} (h : w.cell? a = some v) (o : Obj) : (w.alloc o).cell? a = some v := by
  rw [World.cell?_alloc_lt _ _ _ (World.block_lt_of_cell? w a h)]
  exact h
theorem hat_lt {w : World} {b o : Nat} {v : Value} (h : w.cell? ⟨b, o, none⟩ = some v) : b < w.heap.size := World.block_lt_of_cell? w ⟨b, o, none⟩ h
theorem any_take_succ {α : Type} (p : α → Bool) (l : List α) (k : Nat) (h : k < l.length) : (l.take (k + 1)).any p = ((l.take k).any p || p l[k]) := by
  rw [List.take_succ_eq_append_getElem h, List.any_append]
  simp
def intl (n : Int) : Value := .int .i64 n
/-- A slice that reads as numbers. -/
def RdI (T : Nat → Prop) (w : World) (v : Value) (l : List Int) : Prop := ∃ A c, v = .slice A l.length c ∧ Rd T w A (l.map intl)
section
variable {T T' S : Nat → Prop} {w w' : World} {v : Value} {l : List Int}
theorem RdI.chg (h : RdI T w v l) (hc : Chg S w w') (hT : ∀ b, T b → b < w.heap.size → ¬ S b) : RdI T w' v l := by
  obtain ⟨A, c, e, h⟩ := h
  exact ⟨A, c, e, h.chg hc hT⟩
theorem RdI.mono (h : RdI T w v l) (hT : ∀ b, T b → T' b) : RdI T' w v l := by
  obtain ⟨A, c, e, h⟩ := h
  exact ⟨A, c, e, h.mono hT⟩
theorem RdI.nil_ (T : Nat → Prop) (w : World) : RdI T w (.slice none 0 0) [] := ⟨none, 0, rfl, fun h => absurd rfl h⟩
theorem RdI.flat {A : Option Addr} {c : Nat} (h : RdI T w (.slice A l.length c) l) (hn : l ≠ []) : ∃ b o, A = some ⟨b, o, none⟩ ∧ T b ∧ ∀ j, j < l.length → w.cell? ⟨b, o + j, none⟩ = some (.int .i64 (l.getD j 0)) := by
  obtain ⟨A', c', e, h⟩ := h
  injection e with e1 e2 e3
  subst e1
  obtain ⟨b, o, rfl, hT, hc⟩ := h.flat (by intro e; exact hn (List.map_eq_nil_iff.1 e))
  refine ⟨b, o, rfl, hT, fun j hj => hc j _ ?_⟩
  rw [List.getElem?_map, List.getElem?_eq_getElem hj, List.getD_eq_getElem?_getD, List.getElem?_eq_getElem hj]
  rfl
theorem RdI.val (h : RdI T w v l) : ∃ A c, v = .slice A l.length c := by
  obtain ⟨A, c, e, _⟩ := h
  exact ⟨A, c, e⟩
end
theorem beq_lens {l k : List Int} (h : l.length ≠ k.length) : (l == k) = false := by
  rw [beq_eq_false_iff_ne]
  rintro rfl
  exact h rfl
/-- What the program's own tables hold. -/
structure Lay (w : World) : Prop where
  spc : Lib.TabIs Tryz.prog w "strings.asciiSpace" .u8 Lib.asciiSpaceTab
  sz : 2 ≤ w.heap.size
theorem globS : Tryz.prog.globalNamed "strings.asciiSpace" = some 1 := by kernel_rfl
theorem Lay.chg {w w' : World} {S : Nat → Prop} (h : Lay w) (hc : Chg S w w') (hS : ∀ b, b < 7 → ¬ S b) : Lay w' := by
  have hz := h.sz
  have hz2 := hc.size
  refine ⟨?_, by omega⟩
  have h1 := h.spc
  unfold Lib.TabIs World.var? at h1 ⊢
  rw [globS] at h1 ⊢
  simp only [Option.bind_some] at h1 ⊢
  rw [hc.block 1 (by omega) (hS 1 (by omega))]
  exact h1
end Go.Proofs.YticnehmgaklhfaaGreatDoor
