/-
  Layer 19: what the listed variables give; the law on what is built in; the row's last step.
-/
import Derived.Test.YtejkaalhjocmgaaDoorYh
import Derived.Test.YtejkaalhjocmgaaDoorRows
import Derived.ProofKit
import Derived.LaidMore
import Derived.OpenShut
import Derived.Stop.Joined
import Derived.Lib.LaidTab
namespace Go.Proofs.YtejkaalhjocmgaaDoor
open Go.ChangeShapes Go.WideShapes Go.ChangeAt Go.RowKit
set_option maxHeartbeats 1000000
set_option maxRecDepth 100000
theorem takes_law (p : Int) (w : World) (lay : Lay w) : Calls Tryd.prog 4 #[.int .i64 p] w fun e w' => e = .returned (.bool true) ∧ Chg (fun _ => False) w w' := by
  have HA := hide (awake_any w lay)
  have HT := hide (fun W => takes_any p W)
  have HR := hide (fun W => refTakes_any p W)
  clear lay
  generalize takesI p = q at *
  go_enter Tryd.func4, Tryd.ntmps4
  go_wp2_with (first
    | (go_at_call 7; refine (unhide HA).mono ?_; rintro e w2 ⟨rfl, hch⟩; have HC2 := hide hch; clear hch)
    | (go_at_call 15; refine (unhide HT _).mono ?_; rintro e w3 ⟨rfl, hch⟩; have HC3 := hide ((unhide HC2).trans' hch); clear hch)
    | (go_at_call 16; refine (unhide HR _).mono ?_; rintro e w4 ⟨rfl, rfl⟩))
  go_ret
  exact ⟨rfl, unhide HC3⟩
/-- The row's last step where of the world it is known that nothing old has changed. -/
theorem post_of_below {H : Type} {enc : TypeId × Value → H} {P : Program} {f : Func} {s : ChangeSpec} {apart fresh handsOn again : Bool} {W W' : World} {args : Array Value} {v : Value} {ds gs : List (DataW H)} {before pa pv : List MemPlace}
    (hW : DataW.Whole enc P f.params.toList s.vars apart W args.toList ds gs before)
    (hres : ∀ (b : Nat) (sp : Nat → Bool) (hd : Bool), DataW.TrodAll enc P W' b sp hd f.resultTypes.toList (v.resultList f.resultTypes.size) (s.fn H (ds ++ gs)).results [])
    (hargs : ∀ sp : Nat → Bool, (∀ p ∈ before, sp p.block = true) → DataW.TrodAll enc P W' 0 sp true f.params.toList args.toList (s.fn H (ds ++ gs)).args pa)
    (hvars : ∀ sp : Nat → Bool, (∀ p ∈ before, sp p.block = true) → DataW.TrodVars enc P W' sp s.vars (s.fn H (ds ++ gs)).vars pv)
    (hps : before = pa ++ pv) (hb : Below W.heap.size W W')
    (hok : ∀ (j : Nat) (t : TypeId) (r : Value), f.resultTypes[j]? = some t → (v.resultList f.resultTypes.size)[j]? = some r → Value.okWide P W' .any 0 t r) :
    s.post enc P f apart fresh handsOn again W args v W' := by
  have hlt : ∀ p ∈ before, p.block < W.heap.size := fun p hp => hW.lt p hp
  have hold : ∀ p ∈ before, (fun b => decide (b < W.heap.size)) p.block = true := fun p hp => by simpa using hlt p hp
  refine ⟨ds, gs, before, [], pa, pv, hW, hres _ _ _, hargs _ hold, hvars _ hold, World.keptBut_mono (fun p hp => ⟨hp, ?_⟩) (hb.frame (· ∈ before)), fun _ => ?_⟩
  · rw [hps, List.mem_append] at hp
    exact Or.inr hp
  · obtain ⟨_, _, _, _, _, hz, hn⟩ := hW
    refine ⟨hok, _, _, ([] ++ pa) ++ pv, ⟨[] ++ pa, pv, trodAll_append (hargs _ (fun _ _ => rfl)) (hres _ _ _), hvars _ (fun _ _ => rfl), rfl, ?_, ?_⟩, ?_⟩
    · intro b off hp
      have hin : MemPlace.cell b off ∈ before := by rw [hps]; simpa using hp
      rw [hb.frozen (hlt _ hin)]
      exact hz b off hin
    · intro ha
      have := hn ha
      rw [hps] at this
      simpa using this
    · intro p hp _
      rw [hps]
      simpa using hp
theorem Tryd.own : ownKnob Tryd.prog.godebug = none := by kernel_rfl
theorem Chg.old {w w' : World} (h : Chg (fun _ => False) w w') : Below w.heap.size w w' := h.below (Nat.le_refl _) (fun _ _ e => e.elim)
noncomputable def laid3 : List (String × DataW Unit) := [("triglyph/op.numbers", Rows.laid_triglyph_op_numbers), ("unicode.White_Space", Rows.laid_unicode_White_Space), ("strings.asciiSpace", Rows.laid_strings_asciiSpace)]
theorem glob0 : Tryd.prog.globalNamed "triglyph/op.numbers" = some 0 := by kernel_rfl
theorem glob2 : Tryd.prog.globalNamed "unicode.White_Space" = some 2 := by kernel_rfl
noncomputable def gt0 : TypeId := ((Tryd.prog.globals[0]?).map (·.type)).getD 0
noncomputable def gt1 : TypeId := ((Tryd.prog.globals[1]?).map (·.type)).getD 0
theorem gty0 : (Tryd.prog.globals[0]?).map (·.type) = some gt0 := by kernel_rfl
theorem gty1 : (Tryd.prog.globals[1]?).map (·.type) = some gt1 := by kernel_rfl
theorem gar0 : Tryd.prog.underlying gt0 = some (.array 21 3) := by kernel_rfl
theorem gar1 : Tryd.prog.underlying gt1 = some (.array 256 5) := by kernel_rfl
theorem gce0 : Tryd.prog.cellsOf 3 = 1 := by kernel_rfl
theorem gce1 : Tryd.prog.cellsOf 5 = 1 := by kernel_rfl
theorem gct0 : Tryd.prog.cellsOf gt0 = 21 := by kernel_rfl
theorem gct1 : Tryd.prog.cellsOf gt1 = 256 := by kernel_rfl
theorem tab0 : (Rows.laid_triglyph_op_numbers : DataW Unit) = Lib.tabData .i64 numT := rfl
theorem tab1 : (Rows.laid_strings_asciiSpace : DataW Unit) = Lib.tabData .u8 Lib.asciiSpaceTab := by kernel_rfl
/-- What the condition gives. -/
theorem of_laid {W : World} (h : laidMetH Tryd.prog laid3 W) : Lay W := by
  rw [MakeChecks.laidMetH_plain _ _ _ (by kernel_rfl)] at h
  obtain ⟨ps, ⟨g0, t0, cs0, f0, p0, q0, hg0, ht0, hv0, hd0, ⟨g2, t2, cs2, f2, p2, q2, hg2, ht2, hv2, hd2, ⟨g1, t1, cs1, f1, p1, q1, hg1, ht1, hv1, hd1, _, _⟩, _⟩, _⟩, _, _⟩ := h
  obtain rfl := Option.some.inj (glob0.symm.trans hg0)
  obtain rfl := Option.some.inj (glob1.symm.trans hg1)
  obtain rfl := Option.some.inj (glob2.symm.trans hg2)
  obtain rfl := Option.some.inj (gty0.symm.trans ht0)
  obtain rfl := Option.some.inj (gty1.symm.trans ht1)
  rw [tab0] at hd0
  rw [tab1] at hd1
  have e0 := Lib.cells_of_tab gar0 Tryd.underlying3 gce0 gct0 hd0
  have e1 := Lib.cells_of_tab gar1 Tryd.underlying5 gce1 gct1 hd1
  have t0 : Lib.TabIs Tryd.prog W "triglyph/op.numbers" .i64 numT := by
    unfold Lib.TabIs
    rw [hv0, ← e0]
  refine ⟨fun k hk => t0.cell glob0 k hk, ?_, ?_⟩
  · unfold Lib.TabIs
    rw [hv1, ← e1]
  · unfold World.var? at hv2
    rw [glob2] at hv2
    simp only [Option.bind_some] at hv2
    rcases Nat.lt_or_ge 2 W.heap.size with h2 | h2
    · exact h2
    · rw [Array.getElem?_eq_none h2] at hv2
      cases hv2
theorem door_met (os : Os) (args : Array Value) : laidMetH Tryd.prog laid3 ((World.doorLaid Tryd.prog 400 os).forCall (fun _ _ => 0) ⟨#[], args, []⟩).memory :=
  laidMetH_of_parts3 (fuel := 8) (laidMet_of_run' 8 (by kernel_rfl) (by kernel_rfl)) (by kernel_rfl) (by kernel_rfl)
end Go.Proofs.YtejkaalhjocmgaaDoor
