/-
  TextBack: for all instructions the law returns true, and its argument reads afterwards as it read before. No condition but the tied tables.
-/
import Derived.Test.YtgonllogaiiicaaDoorLb
import Derived.Test.YtgonllogaiiicaaDoorCards
import Derived.Test.YtgonllogaiiicaaDoorTie
import Derived.SevenTiedAt
namespace Go.Proofs.YtgonllogaiiicaaDoor
open Go.ChangeShapes Go.WideShapes Go.ChangeAt Go.RowKit
set_option maxRecDepth 100000 in
theorem textBack_lifted (os : Os) (started : os.Started) (H : Type) (enc : TypeId × Value → H) :
    ReturnsInHanded {} Tryd.checked os 5 .any (fun w args => (Rows.textBackSpec.pre enc Tryd.prog Tryd.f5 [] false w args ∧ laidMetH Tryd.prog laidR w) ∧ sizedMet enc Tryd.prog Tryd.f5 (OpenSpec.ofChange Rows.textBackSpec) false w args)
      (Rows.textBackSpec.post enc Tryd.prog Tryd.f5 false true false false) := by
  refine returnsInHanded_and_shaped (C := Tryd.checked) (X := fun w _ => laidMetH Tryd.prog laidR w) (fun _ _ _ hh h => h.of_heap hh) Tryd.own started (by kernel_rfl) Tryd.func5
    (ChangeSpec.witness_shaped (enc := enc) (C := Tryd.checked) (os := os) (X := fun w _ => laidMetH Tryd.prog laidR w) false (laidW os) #[.slice none 0 0] 8 rfl (World.shaped_of_RefB (by kernel_rfl) (by kernel_rfl)) (by kernel_rfl) (by kernel_rfl) (by kernel_rfl) (door_met os _)) ?_
  intro W base args ds gs before hval0 hW hL hsh
  have hval : ∀ (j : Nat) t v, Tryd.f5.params[j]? = some t → args[j]? = some v → Value.okWide Tryd.prog W .any base t v := hval0
  have hW' := hW
  have hlt := hW.lt
  obtain ⟨p, q, hA0, hV, rfl, hfz, hnd⟩ := hW
  have hA : DataW.TrodAll enc Tryd.prog W 0 (fun _ => true) true Tryd.f5.params.toList args.toList ds p := hA0
  rw [Tryd.params5] at hA hval
  obtain ⟨v0, d0, rfl, rfl, h0⟩ := trodAll_one hA
  obtain ⟨rfl, rfl⟩ := trodVars_none hV
  obtain ⟨A, l, c, rfl, hr⟩ := code_arg (hval 0 22 v0 rfl rfl) h0
  clear hA0 hval0
  simp only [List.append_nil] at hW' hlt
  refine (textBack_any l c A _ W (of_laid hL hsh) hr).mono fun e W' ⟨he, hc⟩ => ?_
  subst he
  exact ⟨_, rfl, post_of_below (pa := p) (pv := []) hW' (fun _ _ _ => trodAll_mk1 (shut_bool Tryd.underlying4 _))
    (fun sp hs => trodAll_mk1 (trod_kept (by kernel_rfl) (of_decide_eq_true (by kernel_rfl)) h0 hc.old (fun x hx => hlt x hx) (fun x hx => hs x hx))) (fun _ _ => rfl) (by simp)
    hc.old (ok_one (by kernel_rfl) rfl (okWide_bool_mk Tryd.underlying4 _))⟩
theorem textBack_row : Rows.TextBackSaid :=
  OpenClaim.holds_of_wide 5 Tryd.f5 rfl rfl rfl rfl rfl rfl rfl ⟨rfl, rfl, rfl, rfl, rfl⟩ rfl rfl rfl rfl rfl (by kernel_rfl) Tryd.func5 (by kernel_rfl)
    (of_decide_eq_true (by kernel_rfl)) (by unfold Func.isWrapper; first | (rw [if_pos (by decide +kernel)]; kernel_rfl) | (rw [if_neg (by decide +kernel)]; exact ⟨rfl, rfl⟩))
    (fun os started H enc _ => textBack_lifted os started H enc)
theorem textBack_holds : Rows.TextBackCardSaid :=
  Claim7.holds_tied_plain_at .later [] [.data, .data, .data, .data, .data, .data, .pinned] true (true, "07cfd42950ac6a1795829f23656d83ab2cf59e7812238801807f5f7313635a00") false
    textBack_row (fun _ h => by cases h) (by kernel_rfl) (fun _ h => by cases h) textBack_row_tie rfl ⟨rfl, rfl⟩ (by kernel_rfl) rfl
    (fun f fn hf hfn => by
      obtain rfl : f = 5 := Option.some.inj ((show Tryd.prog.funcNamed "triglyph/triglyphlaw17.TextBack" = some 5 by kernel_rfl).symm.trans hf) |>.symm
      obtain rfl : fn = Tryd.f5 := (Option.some.inj (Tryd.func5.symm.trans hfn)).symm
      exact ⟨by kernel_rfl, fun j t ht => by
        rw [Tryd.params5] at ht
        have hm : t ∈ [22] := by simpa using Array.mem_of_getElem? ht
        have hall : ([22].all fun u => !Tryd.prog.wantsStandIn u) = true := by kernel_rfl
        exact (show Tryd.prog.wantsStandIn t = false by simpa using List.all_eq_true.1 hall t hm)⟩)
    (by kernel_rfl)
#print axioms textBack_holds
end Go.Proofs.YtgonllogaiiicaaDoor
