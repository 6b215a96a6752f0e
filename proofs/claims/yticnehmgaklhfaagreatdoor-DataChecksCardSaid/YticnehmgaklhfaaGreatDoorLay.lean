/-
  Layer 10: what the listed variables give; the laws' arguments.
-/
import Derived.Test.YticnehmgaklhfaaGreatDoorOpn
import Derived.Test.YticnehmgaklhfaaGreatDoorRows
namespace Go.Proofs.YticnehmgaklhfaaGreatDoor
open Go.ChangeShapes Go.WideShapes Go.RowKit Go.Deep Go.ChangeAt
set_option maxRecDepth 100000
noncomputable def laidR : List (String × DataW Unit) := [("math/bits.deBruijn32tab", Rows.laid_math_bits_deBruijn32tab), ("math/bits.deBruijn64tab", Rows.laid_math_bits_deBruijn64tab), ("internal/strconv.uint64pow10", Rows.laid_internal_strconv_uint64pow10), ("unicode.White_Space", Rows.laid_unicode_White_Space), ("strings.asciiSpace", Rows.laid_strings_asciiSpace)]
noncomputable def gt1 : TypeId := ((Tryz.prog.globals[1]?).map (·.type)).getD 0
theorem gty1 : (Tryz.prog.globals[1]?).map (·.type) = some gt1 := by kernel_rfl
theorem gar1 : Tryz.prog.underlying gt1 = some (.array 256 5) := by kernel_rfl
theorem gce1 : Tryz.prog.cellsOf 5 = 1 := by kernel_rfl
theorem gct1 : Tryz.prog.cellsOf gt1 = 256 := by kernel_rfl
theorem tab1 : (Rows.laid_strings_asciiSpace : DataW Unit) = Lib.tabData .u8 Lib.asciiSpaceTab := by kernel_rfl
/-- What the condition gives. -/
theorem of_laid {W : World} (h : laidMetH Tryz.prog laidR W) : Lay W := by
  rw [MakeChecks.laidMetH_plain _ _ _ (by kernel_rfl)] at h
  obtain ⟨ps, ⟨_, _, _, _, _, _, _, _, _, _, ⟨_, _, _, _, _, _, _, _, _, _, ⟨_, _, _, _, _, _, _, _, _, _, ⟨_, _, _, _, _, _, _, _, _, _, ⟨g1, t1, cs1, f1, p1, q1, hg1, ht1, hv1, hd1, _, _⟩, _⟩, _⟩, _⟩, _⟩, _, _⟩ := h
  obtain rfl := Option.some.inj (globS.symm.trans hg1)
  obtain rfl := Option.some.inj (gty1.symm.trans ht1)
  rw [tab1] at hd1
  have e1 := Lib.cells_of_tab gar1 Tryz.underlying5 gce1 gct1 hd1
  refine ⟨?_, ?_⟩
  · unfold Lib.TabIs
    rw [hv1, ← e1]
  · unfold World.var? at hv1
    rw [globS] at hv1
    simp only [Option.bind_some] at hv1
    rcases Nat.lt_or_ge 1 W.heap.size with h2 | h2
    · omega
    · rw [Array.getElem?_eq_none h2] at hv1
      cases hv1
theorem door_met (os : Os) (args : Array Value) : laidMetH Tryz.prog laidR ((World.doorLaid Tryz.prog 400 os).forCall (fun _ _ => 0) ⟨#[], args, []⟩).memory :=
  laidMetH_of_parts3 (fuel := 8) (laidMet_of_run' 8 (by kernel_rfl) (by kernel_rfl)) (by kernel_rfl) (by kernel_rfl)
section
variable {H : Type} {enc : TypeId × Value → H} {W : World} {base b0 : Nat} {spare : Nat → Bool} {held : Bool} {r : Go.Reach} {v : Value} {d : DataW H} {p : List MemPlace}
theorem nodes_arg (hv : Value.okWide Tryz.prog W r b0 33 v) (h : DataW.Trod enc Tryz.prog W base spare held 33 v d p) : ∃ l, RdN (fun _ => True) W v l := by
  obtain ⟨A, len, cap, rfl⟩ := okWide_slice Tryz.underlying33 hv
  obtain ⟨fuel, h⟩ := h
  exact open_nodes (show DataW.trod enc Tryz.prog W base spare held fuel 33 [.slice A len cap] = some _ from h)
theorem rows_arg (hv : Value.okWide Tryz.prog W r b0 32 v) (h : DataW.Trod enc Tryz.prog W base spare held 32 v d p) : ∃ l, RdNs (fun _ => True) W v l := by
  obtain ⟨A, len, cap, rfl⟩ := okWide_slice Tryz.underlying32 hv
  obtain ⟨fuel, h⟩ := h
  exact open_rows (show DataW.trod enc Tryz.prog W base spare held fuel 32 [.slice A len cap] = some _ from h)
theorem datas_arg (hv : Value.okWide Tryz.prog W r b0 22 v) (h : DataW.Trod enc Tryz.prog W base spare held 22 v d p) : ∃ l, RdD (fun _ => True) W v l := by
  obtain ⟨A, len, cap, rfl⟩ := okWide_slice Tryz.underlying22 hv
  obtain ⟨fuel, h⟩ := h
  exact open_datas (show DataW.trod enc Tryz.prog W base spare held fuel 22 [.slice A len cap] = some _ from h)
theorem undDt3 : Tryz.prog.underlying 51 = some (.struct #[(fieldsOf 51)[0]!, (fieldsOf 51)[1]!, (fieldsOf 51)[2]!]) := by kernel_rfl
theorem fDa : ((fieldsOf 51)[0]!).type = 9 := by kernel_rfl
theorem fDb : ((fieldsOf 51)[1]!).type = 3 := by kernel_rfl
theorem fDc : ((fieldsOf 51)[2]!).type = 48 := by kernel_rfl
theorem data_arg (hv : Value.okWide Tryz.prog W r b0 51 v) (h : DataW.Trod enc Tryz.prog W base spare held 51 v d p) : ∃ (x : Dt) (u : Value), v = .agg #[.string x.name, .int .i64 x.params, u] ∧ RdC (fun _ => True) W u x.cons ∧ x.name.size ≤ 9223372036854775807 := by
  obtain ⟨v0, v1, v2, y0, y1, y2, n, rfl, _, _, h0, h1, h2⟩ := Go.Joins.open_agg3 undDt3 (by kernel_rfl) (by kernel_rfl) hv h
  rw [fDa] at h0
  rw [fDb] at h1
  rw [fDc] at h2
  obtain ⟨s, e0, _, hs⟩ := DataW.trod_string Tryz.underlying9 h0
  obtain ⟨n1, e1, _⟩ := DataW.trod_int Tryz.underlying3 h1
  obtain ⟨xs, hxs⟩ := open_ctors h2
  simp only [List.cons.injEq, and_true] at e0 e1
  subst e0 e1
  exact ⟨⟨s, n1, xs⟩, v2, rfl, hxs, hs⟩
end
end Go.Proofs.YticnehmgaklhfaaGreatDoor
