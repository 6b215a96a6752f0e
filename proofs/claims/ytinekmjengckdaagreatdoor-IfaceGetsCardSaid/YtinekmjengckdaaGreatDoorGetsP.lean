/-
  IfaceGets: for every text the law returns true, and its argument reads afterwards as it read before. No condition but the tied tables.
-/
import Derived.Test.YtinekmjengckdaaGreatDoorLwg
import Derived.Test.YtinekmjengckdaaGreatDoorA41
import Derived.Test.YtinekmjengckdaaGreatDoorCards
import Derived.Test.YtinekmjengckdaaGreatDoorTie
import Derived.SevenTiedAt
namespace Go.Proofs.YtinekmjengckdaaGreatDoor
open Go.ChangeShapes Go.WideShapes Go.ChangeAt Go.RowKit
set_option maxRecDepth 100000 in
theorem ifaceGets_lifted (os : Os) (started : os.Started) (H : Type) (enc : TypeId × Value → H) :
    ReturnsInHanded {} Tryz.checked os 4 .any (fun w args => (Rows.ifaceGetsSpec.pre enc Tryz.prog Tryz.f4 [] false w args ∧ laidMetH Tryz.prog laidR w) ∧ sizedMet enc Tryz.prog Tryz.f4 (OpenSpec.ofChange Rows.ifaceGetsSpec) false w args)
      (Rows.ifaceGetsSpec.post enc Tryz.prog Tryz.f4 false true false false) := by
  refine returnsInHanded_of_change_and (C := Tryz.checked) (X := fun w _ => laidMetH Tryz.prog laidR w) (fun _ _ _ hh h => h.of_heap hh) Tryz.own started (by kernel_rfl) Tryz.func4
    (ChangeSpec.witness_shaped (enc := enc) (C := Tryz.checked) (os := os) (X := fun w _ => laidMetH Tryz.prog laidR w) false (World.doorLaid Tryz.prog 400 os) #[.string ⟨#[]⟩] 8 rfl (World.shaped_of_RefB (by kernel_rfl) (by kernel_rfl)) (by kernel_rfl) (by kernel_rfl) (by kernel_rfl) (door_met os _)) ?_
  intro W base args ds gs before hval0 hW _ _ hL _
  have hval : ∀ (j : Nat) t v, Tryz.f4.params[j]? = some t → args[j]? = some v → Value.okWide Tryz.prog W .any base t v := hval0
  have hW' := hW
  have hlt := hW.lt
  obtain ⟨p, q, hA0, hV, rfl, hfz, hnd⟩ := hW
  have hA : DataW.TrodAll enc Tryz.prog W 0 (fun _ => true) true Tryz.f4.params.toList args.toList ds p := hA0
  rw [Tryz.params4] at hA hval
  obtain ⟨v0, d0, rfl, rfl, h0⟩ := trodAll_one hA
  obtain ⟨rfl, rfl⟩ := trodVars_none hV
  obtain ⟨s, hs0⟩ := okWide_string Tryz.underlying9 (hval 0 9 v0 rfl rfl)
  subst hs0
  obtain ⟨fz, hz⟩ := h0
  obtain ⟨_, ez, _, hsz⟩ := DataW.trod_string Tryz.underlying9 (show DataW.trod enc Tryz.prog W 0 (fun _ => true) true fz 9 [.string s] = some _ from hz)
  simp only [List.cons.injEq, and_true, Value.string.injEq] at ez
  subst ez
  have h0 : DataW.Trod enc Tryz.prog W 0 (fun _ => true) true 9 (.string s) d0 p := ⟨fz, hz⟩
  clear hA0 hval0
  simp only [List.append_nil] at hW' hlt
  refine (gets_law s W hsz (of_laid hL)).mono fun e W' ⟨he, hc⟩ => ?_
  subst he
  exact ⟨_, rfl, post_of_below (pa := p) (pv := []) hW' (fun _ _ _ => trodAll_mk1 (shut_bool Tryz.underlying4 _))
    (fun sp hs => trodAll_mk1 (trod_kept (by kernel_rfl) (of_decide_eq_true (by kernel_rfl)) h0 hc.old (fun x hx => hlt x hx) (fun x hx => hs x hx))) (fun _ _ => rfl) (by simp)
    hc.old (ok_one (by kernel_rfl) rfl (okWide_bool_mk Tryz.underlying4 _))⟩
theorem ifaceGets_row : Rows.IfaceGetsSaid :=
  OpenClaim.holds_of_wide 4 Tryz.f4 rfl rfl rfl rfl rfl rfl rfl ⟨rfl, rfl, rfl, rfl, rfl⟩ rfl rfl rfl rfl rfl (by kernel_rfl) Tryz.func4 (by kernel_rfl)
    (of_decide_eq_true (by kernel_rfl)) (by unfold Func.isWrapper; first | (rw [if_pos (by decide +kernel)]; kernel_rfl) | (rw [if_neg (by decide +kernel)]; exact ⟨rfl, rfl⟩))
    (fun os started H enc _ => ifaceGets_lifted os started H enc)
theorem ifaceGets_holds : Rows.IfaceGetsCardSaid :=
  Claim7.holds_tied_plain_at .later [] [.listed, .data] true (true, "39c7300324806c6cbfe5c0161aee06e22058f9b6fadb20fdd3a5c4ce163557d7") false
    ifaceGets_row (fun _ h => by cases h) (by kernel_rfl) (fun _ h => by cases h) ifaceGets_row_tie rfl ⟨rfl, rfl⟩ (by kernel_rfl) rfl
    (fun f fn hf hfn => by
      obtain rfl : f = 4 := Option.some.inj ((show Tryz.prog.funcNamed "triglyph/triglyphlaw23.IfaceGets" = some 4 by kernel_rfl).symm.trans hf) |>.symm
      obtain rfl : fn = Tryz.f4 := (Option.some.inj (Tryz.func4.symm.trans hfn)).symm
      exact ⟨by kernel_rfl, fun j t ht => by
        rw [Tryz.params4] at ht
        have hm : t ∈ [9] := by simpa using Array.mem_of_getElem? ht
        have hall : ([9].all fun u => !Tryz.prog.wantsStandIn u) = true := by kernel_rfl
        exact (show Tryz.prog.wantsStandIn t = false by simpa using List.all_eq_true.1 hall t hm)⟩)
    (by kernel_rfl)
#print axioms ifaceGets_holds
end Go.Proofs.YtinekmjengckdaaGreatDoor
