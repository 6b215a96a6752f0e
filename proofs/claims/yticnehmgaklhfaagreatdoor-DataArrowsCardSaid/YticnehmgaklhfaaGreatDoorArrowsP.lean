/-
  DataArrows: for all things the law returns true, and its arguments read afterwards as they read before. No condition but the tied tables.
-/
import Derived.Test.YticnehmgaklhfaaGreatDoorLwA
import Derived.Test.YticnehmgaklhfaaGreatDoorLay
import Derived.Test.YticnehmgaklhfaaGreatDoorCards
import Derived.Test.YticnehmgaklhfaaGreatDoorTie
import Derived.SevenTiedAt
namespace Go.Proofs.YticnehmgaklhfaaGreatDoor
open Go.ChangeShapes Go.WideShapes Go.ChangeAt Go.RowKit
set_option maxRecDepth 100000 in
theorem cap_arg {H : Type} {enc : TypeId × Value → H} {W : World} {base b0 : Nat} {spare : Nat → Bool} {held : Bool} {r : Go.Reach} {v : Value} {d : DataW H} {p : List MemPlace} (hv : Value.okWide Tryz.prog W r b0 32 v) (h : DataW.Trod enc Tryz.prog W base spare held 32 v d p) : capOk v := by
  obtain ⟨A, len, cap, rfl⟩ := okWide_slice Tryz.underlying32 hv
  obtain ⟨fuel, h⟩ := h
  rcases Go.Deep.open_slice Tryz.underlying32 (show DataW.trod enc Tryz.prog W base spare held fuel 32 [.slice A len cap] = some _ from h) with ⟨h0, _⟩ | ⟨a, len', cap', _, _, _, _, hcs, _, hl, hm, _⟩
  · simp only [List.cons.injEq, and_true] at h0
    rw [h0]
    exact ⟨none, 0, 0, rfl, Nat.le_refl _, Nat.zero_le _⟩
  · simp only [List.cons.injEq, and_true] at hcs
    rw [hcs]
    exact ⟨some a, len', cap', rfl, hl, hm⟩
set_option maxRecDepth 100000 in
theorem dataArrows_lifted (os : Os) (started : os.Started) (H : Type) (enc : TypeId × Value → H) :
    ReturnsInHanded {} Tryz.checked os 4 .any (fun w args => (Rows.dataArrowsSpec.pre enc Tryz.prog Tryz.f4 [] false w args ∧ laidMetH Tryz.prog laidR w) ∧ sizedMet enc Tryz.prog Tryz.f4 (OpenSpec.ofChange Rows.dataArrowsSpec) false w args)
      (Rows.dataArrowsSpec.post enc Tryz.prog Tryz.f4 false true false false) := by
  refine returnsInHanded_of_change_and (C := Tryz.checked) (X := fun w _ => laidMetH Tryz.prog laidR w) (fun _ _ _ hh h => h.of_heap hh) Tryz.own started (by kernel_rfl) Tryz.func4
    (ChangeSpec.witness_shaped (enc := enc) (C := Tryz.checked) (os := os) (X := fun w _ => laidMetH Tryz.prog laidR w) false (World.doorLaid Tryz.prog 400 os) #[.slice none 0 0, .slice none 0 0] 8 rfl (World.shaped_of_RefB (by kernel_rfl) (by kernel_rfl)) (by kernel_rfl) (by kernel_rfl) (by kernel_rfl) (door_met os _)) ?_
  intro W base args ds gs before hval0 hW _ _ hL _
  have hval : ∀ (j : Nat) t v, Tryz.f4.params[j]? = some t → args[j]? = some v → Value.okWide Tryz.prog W .any base t v := hval0
  have hW' := hW
  have hlt := hW.lt
  obtain ⟨p, q, hA0, hV, rfl, hfz, hnd⟩ := hW
  have hA : DataW.TrodAll enc Tryz.prog W 0 (fun _ => true) true Tryz.f4.params.toList args.toList ds p := hA0
  rw [Tryz.params4] at hA hval
  obtain ⟨v0, v1, d0, d1, p0, p1, rfl, rfl, rfl, h0, h1⟩ := trodAll_two hA
  obtain ⟨rfl, rfl⟩ := trodVars_none hV
  obtain ⟨l, hl⟩ := rows_arg (hval 0 32 v0 rfl rfl) h0
  obtain ⟨m, hm⟩ := nodes_arg (hval 1 33 v1 rfl rfl) h1
  have hcp := cap_arg (hval 0 32 v0 rfl rfl) h0
  clear hA0 hval0
  simp only [List.append_nil] at hW' hlt
  refine (arrows_law l m v0 v1 _ _ W hl hcp hm (of_laid hL)).mono fun e W' ⟨he, hc⟩ => ?_
  subst he
  exact ⟨_, rfl, post_of_below (pa := p0 ++ p1) (pv := []) hW' (fun _ _ _ => trodAll_mk1 (shut_bool Tryz.underlying4 _))
    (fun sp hs => trodAll_mk2 (trod_kept (by kernel_rfl) (of_decide_eq_true (by kernel_rfl)) h0 hc.old (fun x hx => hlt x (List.mem_append.2 (.inl hx))) (fun x hx => hs x (List.mem_append.2 (.inl hx)))) (trod_kept (by kernel_rfl) (of_decide_eq_true (by kernel_rfl)) h1 hc.old (fun x hx => hlt x (List.mem_append.2 (.inr hx))) (fun x hx => hs x (List.mem_append.2 (.inr hx))))) (fun _ _ => rfl) (by simp)
    hc.old (ok_one (by kernel_rfl) rfl (okWide_bool_mk Tryz.underlying4 _))⟩
theorem dataArrows_row : Rows.DataArrowsSaid :=
  OpenClaim.holds_of_wide 4 Tryz.f4 rfl rfl rfl rfl rfl rfl rfl ⟨rfl, rfl, rfl, rfl, rfl⟩ rfl rfl rfl rfl rfl (by kernel_rfl) Tryz.func4 (by kernel_rfl)
    (of_decide_eq_true (by kernel_rfl)) (by unfold Func.isWrapper; first | (rw [if_pos (by decide +kernel)]; kernel_rfl) | (rw [if_neg (by decide +kernel)]; exact ⟨rfl, rfl⟩))
    (fun os started H enc _ => dataArrows_lifted os started H enc)
theorem dataArrows_holds : Rows.DataArrowsCardSaid :=
  Claim7.holds_tied_plain_at .later [] [.data, .data, .data, .listed, .data] true (true, "74eff4af45911e4bc9786ac739c44c473481f0d43f52470cb2c3e730e4b444ed") false
    dataArrows_row (fun _ h => by cases h) (by kernel_rfl) (fun _ h => by cases h) dataArrows_row_tie rfl ⟨rfl, rfl⟩ (by kernel_rfl) rfl
    (fun f fn hf hfn => by
      obtain rfl : f = 4 := Option.some.inj ((show Tryz.prog.funcNamed "triglyph/triglyphlaw10.DataArrows" = some 4 by kernel_rfl).symm.trans hf) |>.symm
      obtain rfl : fn = Tryz.f4 := (Option.some.inj (Tryz.func4.symm.trans hfn)).symm
      exact ⟨by kernel_rfl, fun j t ht => by
        rw [Tryz.params4] at ht
        have hm : t ∈ [32, 33] := by simpa using Array.mem_of_getElem? ht
        have hall : ([32, 33].all fun u => !Tryz.prog.wantsStandIn u) = true := by kernel_rfl
        exact (show Tryz.prog.wantsStandIn t = false by simpa using List.all_eq_true.1 hall t hm)⟩)
    (by kernel_rfl)
#print axioms dataArrows_holds
end Go.Proofs.YticnehmgaklhfaaGreatDoor
