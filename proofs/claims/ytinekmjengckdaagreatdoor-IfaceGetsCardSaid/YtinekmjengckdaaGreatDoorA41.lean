/-
  Layer 10: the laws' arguments, opened to what they have. Layer 10: what the listed variables give; the laws' arguments. Layer 10: rows of declarations whose constructors' arguments are rows of known room. Layer 23: the laws' arguments, opened: interfaces.
-/
import Derived.Test.YtinekmjengckdaaGreatDoorA30
import Derived.Deep.Slices
import Derived.Deep.Fields
import Derived.ChangeSame
import Derived.Carry
import Derived.Lib.SmallJoins
import Derived.ProofKit
import Derived.LaidMore
import Derived.OpenShut
import Derived.Stop.Joined
import Derived.Lib.LaidTab
import Derived.Test.YtinekmjengckdaaGreatDoorRows
import Derived.Test.YtinekmjengckdaaGreatDoorA26
import Derived.Test.YtinekmjengckdaaGreatDoorA14
namespace Go.Proofs.YtinekmjengckdaaGreatDoor
open Go.ChangeShapes Go.WideShapes Go.RowKit Go.Deep Go.ChangeAt
set_option maxRecDepth 100000
section
variable {H : Type} {enc : TypeId × Value → H} {P : Program} {w : World} {base : Nat} {spare : Nat → Bool} {held : Bool}
end
section
variable {H : Type} {enc : TypeId × Value → H} {w : World} {base : Nat} {spare : Nat → Bool} {held : Bool}
end
theorem tryLaid : laidOutB Tryz.prog = true := by kernel_rfl
theorem trod_kept {H : Type} {enc : TypeId × Value → H} {t : TypeId} (hr : Tryz.prog.readableRec t = true) (hrow : t < Tryz.prog.types.size) {W W' : World} {v : Value} {d : DataW H} {ps : List MemPlace}
    (h : DataW.Trod enc Tryz.prog W 0 (fun _ => true) true t v d ps) (hb : Below W.heap.size W W') (hlt : ∀ x ∈ ps, x.block < W.heap.size) {sp : Nat → Bool} (hs : ∀ p ∈ ps, sp p.block = true) : DataW.Trod enc Tryz.prog W' 0 sp true t v d ps :=
  WideElems.Trod_stays tryLaid hr hrow h (fun x hx => hb.same (hlt x hx)) hs
theorem post_of_below {H : Type} {enc : TypeId × Value → H} {P : Program} {f : Func} {s : ChangeSpec} {apart fresh handsOn again : Bool} {W W' : World} {args : Array Value} {v : Value} {ds gs : List (DataW H)} {before pa pv : List MemPlace}
    (hW : DataW.Whole enc P f.params.toList s.vars apart W args.toList ds gs before)
    (hres : ∀ (b : Nat) (sp : Nat → Bool) (hd : Bool), DataW.TrodAll enc P W' b sp hd f.resultTypes.toList (v.resultList f.resultTypes.size) (s.fn H (ds ++ gs)).results [])
    (hargs : ∀ sp : Nat → Bool, (∀ p ∈ before, sp p.block = true) → DataW.TrodAll enc P W' 0 sp true f.params.toList args.toList (s.fn H (ds ++ gs)).args pa)
    (hvars : ∀ sp : Nat → Bool, (∀ p ∈ before, sp p.block = true) → DataW.TrodVars enc P W' sp s.vars (s.fn H (ds ++ gs)).vars pv)
    (hps : before = pa ++ pv) (hb : Below W.heap.size W W')
    (hok : ∀ (j : Nat) (t : TypeId) (r : Value), f.resultTypes[j]? = some t → (v.resultList f.resultTypes.size)[j]? = some r → Value.okWide P W' .any 0 t r) :
    s.post enc P f apart fresh handsOn again W args v W' := by
  have hlt : ∀ p ∈ before, p.block < W.heap.size := fun p hp => hW.lt p hp
  have hold : ∀ p ∈ before, (fun b => decide (b < W.heap.size)) p.block = true := fun p hp => by simpa using hlt p hp
  refine ⟨ds, gs, before, [], pa, pv, hW, hres _ _ _, hargs _ hold, hvars _ hold, World.keptBut_mono (fun p hp => ⟨hp, ?_⟩) (hb.frame (· ∈ before)), fun _ => ?_⟩
  · rw [hps, List.mem_append] at hp
    exact Or.inr hp
  · obtain ⟨_, _, _, _, _, hz, hn⟩ := hW
    refine ⟨hok, _, _, ([] ++ pa) ++ pv, ⟨[] ++ pa, pv, trodAll_append (hargs _ (fun _ _ => rfl)) (hres _ _ _), hvars _ (fun _ _ => rfl), rfl, ?_, ?_⟩, ?_⟩
    · intro b off hp
      have hin : MemPlace.cell b off ∈ before := by rw [hps]; simpa using hp
      rw [hb.frozen (hlt _ hin)]
      exact hz b off hin
    · intro ha
      have := hn ha
      rw [hps] at this
      simpa using this
    · intro p hp _
      rw [hps]
      simpa using hp
theorem Tryz.own : ownKnob Tryz.prog.godebug = none := by kernel_rfl
theorem Chg.old {w w' : World} (h : Chg (fun _ => False) w w') : Below w.heap.size w w' := h.below (Nat.le_refl _) (fun _ _ e => e.elim)
end Go.Proofs.YtinekmjengckdaaGreatDoor

namespace Go.Proofs.YtinekmjengckdaaGreatDoor
open Go.ChangeShapes Go.WideShapes Go.RowKit Go.Deep Go.ChangeAt
set_option maxRecDepth 100000
noncomputable def laidR : List (String × DataW Unit) := [("unicode.White_Space", Rows.laid_unicode_White_Space), ("strings.asciiSpace", Rows.laid_strings_asciiSpace)]
noncomputable def gt1 : TypeId := ((Tryz.prog.globals[0]?).map (·.type)).getD 0
theorem gty1 : (Tryz.prog.globals[0]?).map (·.type) = some gt1 := by kernel_rfl
theorem gar1 : Tryz.prog.underlying gt1 = some (.array 256 5) := by kernel_rfl
theorem gce1 : Tryz.prog.cellsOf 5 = 1 := by kernel_rfl
theorem gct1 : Tryz.prog.cellsOf gt1 = 256 := by kernel_rfl
theorem tab1 : (Rows.laid_strings_asciiSpace : DataW Unit) = Lib.tabData .u8 Lib.asciiSpaceTab := by kernel_rfl
theorem of_laid {W : World} (h : laidMetH Tryz.prog laidR W) : Lay W := by
  rw [MakeChecks.laidMetH_plain _ _ _ (by kernel_rfl)] at h
  obtain ⟨ps, ⟨g2, t2, cs2, f2, p2, q2, hg2, ht2, hv2, hd2, ⟨g1, t1, cs1, f1, p1, q1, hg1, ht1, hv1, hd1, _, _⟩, _⟩, _, _⟩ := h
  obtain rfl := Option.some.inj (globS.symm.trans hg1)
  obtain rfl := Option.some.inj (gty1.symm.trans ht1)
  rw [tab1] at hd1
  have e1 := Lib.cells_of_tab gar1 Tryz.underlying5 gce1 gct1 hd1
  refine ⟨?_, ?_⟩
  · unfold Lib.TabIs
    rw [hv1, ← e1]
  · have globW : Tryz.prog.globalNamed "unicode.White_Space" = some 1 := by kernel_rfl
    unfold World.var? at hv2
    rw [globW] at hv2
    simp only [Option.bind_some] at hv2
    rcases Nat.lt_or_ge 1 W.heap.size with h2 | h2
    · omega
    · rw [Array.getElem?_eq_none h2] at hv2
      cases hv2
theorem door_met (os : Os) (args : Array Value) : laidMetH Tryz.prog laidR ((World.doorLaid Tryz.prog 400 os).forCall (fun _ _ => 0) ⟨#[], args, []⟩).memory :=
  laidMetH_of_parts3 (fuel := 8) (laidMet_of_run' 8 (by kernel_rfl) (by kernel_rfl)) (by kernel_rfl) (by kernel_rfl)
section
variable {H : Type} {enc : TypeId × Value → H} {W : World} {base b0 : Nat} {spare : Nat → Bool} {held : Bool} {r : Go.Reach} {v : Value} {d : DataW H} {p : List MemPlace}
end
end Go.Proofs.YtinekmjengckdaaGreatDoor

namespace Go.Proofs.YtinekmjengckdaaGreatDoor
open Go.ChangeShapes Go.WideShapes Go.RowKit Go.Deep Go.ChangeAt
set_option maxRecDepth 100000
section
variable {H : Type} {enc : TypeId × Value → H} {w : World} {base : Nat} {spare : Nat → Bool} {held : Bool}
end
end Go.Proofs.YtinekmjengckdaaGreatDoor

namespace Go.Proofs.YtinekmjengckdaaGreatDoor
open Go.ChangeShapes Go.WideShapes Go.RowKit Go.Deep Go.ChangeAt
set_option maxRecDepth 100000
section
variable {H : Type} {enc : TypeId × Value → H} {w : World} {base : Nat} {spare : Nat → Bool} {held : Bool}
end
end Go.Proofs.YtinekmjengckdaaGreatDoor
