/-
  VerifyMore: for every image and whatever instructions are put behind it the law returns true, and its arguments read afterwards as they read before. No condition but the tied tables.
-/
import Derived.Test.YtejkaalhjocmgaaDoorZe
import Derived.Test.YtejkaalhjocmgaaDoorZd
import Derived.Test.YtejkaalhjocmgaaDoorCards
import Derived.Test.YtejkaalhjocmgaaDoorTie
import Derived.SevenTiedAt
namespace Go.Proofs.YtejkaalhjocmgaaDoor
open Go.ChangeShapes Go.WideShapes Go.ChangeAt Go.RowKit

set_option maxRecDepth 100000 in
theorem more_lifted (os : Os) (started : os.Started) (H : Type) (enc : TypeId × Value → H) :
    ReturnsInHanded {} Tryd.checked os 6 .any (fun w args => (Rows.verifyMoreSpec.pre enc Tryd.prog Tryd.f6 [] false w args ∧ laidMetH Tryd.prog laid3 w) ∧ sizedMet enc Tryd.prog Tryd.f6 (OpenSpec.ofChange Rows.verifyMoreSpec) false w args)
      (Rows.verifyMoreSpec.post enc Tryd.prog Tryd.f6 false true false false) := by
  refine returnsInHanded_of_change_and (C := Tryd.checked) (X := fun w _ => laidMetH Tryd.prog laid3 w) (fun _ _ _ hh h => h.of_heap hh) Tryd.own started (by kernel_rfl) Tryd.func6
    (ChangeSpec.witness_shaped (enc := enc) (C := Tryd.checked) (os := os) (X := fun w _ => laidMetH Tryd.prog laid3 w) false (World.doorLaid Tryd.prog 400 os) #[.agg #[.slice none 0 0, .slice none 0 0], .slice none 0 0] 8 rfl (World.shaped_of_RefB (by kernel_rfl) (by kernel_rfl)) (by kernel_rfl) (by kernel_rfl) (by kernel_rfl) (door_met os _)) ?_
  intro W base args ds gs before hval0 hW _ _ hL _
  have hval : ∀ (j : Nat) t v, Tryd.f6.params[j]? = some t → args[j]? = some v → Value.okWide Tryd.prog W .any base t v := hval0
  have hW' := hW
  have hlt := hW.lt
  obtain ⟨p, q, hA0, hV, rfl, hfz, hnd⟩ := hW
  have hA : DataW.TrodAll enc Tryd.prog W 0 (fun _ => true) true Tryd.f6.params.toList args.toList ds p := hA0
  rw [Tryd.params6] at hA hval
  obtain ⟨v0, v1, d0, d1, p0, p1, rfl, rfl, rfl, h0, h1⟩ := trodAll_two hA
  obtain ⟨rfl, rfl⟩ := trodVars_none hV
  obtain ⟨m, pA, cA, pc, cc, rfl, hp, hc, hpn, hcn, px⟩ := open_image (hval 0 25 v0 rfl rfl) h0
  obtain ⟨A, len, cap, hv1⟩ := okWide_slice Tryd.underlying23 (hval 1 23 v1 rfl rfl)
  obtain ⟨fuel, hf1⟩ := h1
  have hf2 := hf1
  rw [hv1] at hf2
  obtain ⟨M, l, mc, hM, hm, hml⟩ := open_code (show DataW.trod enc Tryd.prog W 0 (fun _ => true) true fuel 23 [.slice A len cap] = some _ from hf2)
  have h1 : DataW.Trod enc Tryd.prog W 0 (fun _ => true) true 23 v1 d1 p1 := ⟨fuel, hf1⟩
  rw [hv1, hM] at h1 hval
  clear hf1 hf2
  have hv1M := hv1.trans hM
  subst hv1M
  simp only [maxLen] at hml
  clear hA0 hval0
  simp only [List.append_nil] at hW' hlt
  refine (more_any m pA cA pc cc _ _ W hp hc hpn hcn px (of_laid hL) l M mc hm (by omega)).mono fun e W' ⟨he, hc⟩ => ?_
  subst he
  exact ⟨_, rfl, post_of_below (pa := p0 ++ p1) (pv := []) hW' (fun _ _ _ => trodAll_mk1 (shut_bool Tryd.underlying4 _))
    (fun sp hs => trodAll_mk2 (trod_kept (by kernel_rfl) (of_decide_eq_true (by kernel_rfl)) h0 hc.old (fun x hx => hlt x (List.mem_append.2 (.inl hx))) (fun x hx => hs x (List.mem_append.2 (.inl hx)))) (trod_kept (by kernel_rfl) (of_decide_eq_true (by kernel_rfl)) h1 hc.old (fun x hx => hlt x (List.mem_append.2 (.inr hx))) (fun x hx => hs x (List.mem_append.2 (.inr hx))))) (fun _ _ => rfl) (by simp)
    hc.old (ok_one (by kernel_rfl) rfl (okWide_bool_mk Tryd.underlying4 _))⟩
theorem more_row : Rows.VerifyMoreSaid :=
  OpenClaim.holds_of_wide 6 Tryd.f6 rfl rfl rfl rfl rfl rfl rfl ⟨rfl, rfl, rfl, rfl, rfl⟩ rfl rfl rfl rfl rfl (by kernel_rfl) Tryd.func6 (by kernel_rfl)
    (of_decide_eq_true (by kernel_rfl)) (by unfold Func.isWrapper; first | (rw [if_pos (by decide +kernel)]; kernel_rfl) | (rw [if_neg (by decide +kernel)]; exact ⟨rfl, rfl⟩))
    (fun os started H enc _ => more_lifted os started H enc)
theorem verifyMore_holds : Rows.VerifyMoreCardSaid :=
  Claim7.holds_tied_plain_at .later [] [.data, .listed, .data] true (true, "e4c8466676b1592ed323e77e9215ad06c4a4077c413d702d92f07da923daeea5") false
    more_row (fun _ h => by cases h) (by kernel_rfl) (fun _ h => by cases h) verifyMore_row_tie rfl ⟨rfl, rfl⟩ (by kernel_rfl) rfl
    (fun f fn hf hfn => by
      obtain rfl : f = 6 := Option.some.inj ((show Tryd.prog.funcNamed "triglyph/triglyphlaw19.VerifyMore" = some 6 by kernel_rfl).symm.trans hf) |>.symm
      obtain rfl : fn = Tryd.f6 := (Option.some.inj (Tryd.func6.symm.trans hfn)).symm
      exact ⟨by kernel_rfl, fun j t ht => by
        rw [Tryd.params6] at ht
        have hm : t ∈ [25, 23] := by simpa using Array.mem_of_getElem? ht
        have hall : ([25, 23].all fun u => !Tryd.prog.wantsStandIn u) = true := by kernel_rfl
        exact (show Tryd.prog.wantsStandIn t = false by simpa using List.all_eq_true.1 hall t hm)⟩)
    (by kernel_rfl)
#print axioms verifyMore_holds
end Go.Proofs.YtejkaalhjocmgaaDoor
