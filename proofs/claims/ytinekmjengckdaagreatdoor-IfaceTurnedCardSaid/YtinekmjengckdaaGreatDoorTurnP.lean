/-
  IfaceTurned: for all interfaces, places and bytes the law returns true, and its arguments read afterwards as they read before. No condition but the tied tables.
-/
import Derived.Test.YtinekmjengckdaaGreatDoorLwt
import Derived.Test.YtinekmjengckdaaGreatDoorM41
import Derived.Test.YtinekmjengckdaaGreatDoorCards
import Derived.Test.YtinekmjengckdaaGreatDoorTie
import Derived.SevenTiedAt
namespace Go.Proofs.YtinekmjengckdaaGreatDoor
open Go.ChangeShapes Go.WideShapes Go.ChangeAt Go.RowKit
theorem u16_ok {n : Int} (h : (Lit.int .u16 n).wf = true) : 0 ≤ n ∧ n < 65536 := by
  have h1 : IntKind.u16.min = 0 := by decide
  have h2 : IntKind.u16.max = 65535 := by decide
  simp only [Lit.wf, Bool.and_eq_true, decide_eq_true_eq, h1, h2] at h
  omega
theorem u8_ok {n : Int} (h : (Lit.int .u8 n).wf = true) : 0 ≤ n ∧ n < 256 := by
  have h1 : IntKind.u8.min = 0 := by decide
  have h2 : IntKind.u8.max = 255 := by decide
  simp only [Lit.wf, Bool.and_eq_true, decide_eq_true_eq, h1, h2] at h
  omega
set_option maxRecDepth 100000 in
theorem ifaceTurned_lifted (os : Os) (started : os.Started) (H : Type) (enc : TypeId × Value → H) :
    ReturnsInHanded {} Tryz.checked os 7 .any (fun w args => (Rows.ifaceTurnedSpec.pre enc Tryz.prog Tryz.f7 [] false w args ∧ laidMetH Tryz.prog laidR w) ∧ sizedMet enc Tryz.prog Tryz.f7 (OpenSpec.ofChange Rows.ifaceTurnedSpec) false w args)
      (Rows.ifaceTurnedSpec.post enc Tryz.prog Tryz.f7 false true false false) := by
  refine returnsInHanded_of_change_and (C := Tryz.checked) (X := fun w _ => laidMetH Tryz.prog laidR w) (fun _ _ _ hh h => h.of_heap hh) Tryz.own started (by kernel_rfl) Tryz.func7
    (ChangeSpec.witness_shaped (enc := enc) (C := Tryz.checked) (os := os) (X := fun w _ => laidMetH Tryz.prog laidR w) false (World.doorLaid Tryz.prog 400 os) #[.agg #[.string ⟨#[]⟩, .slice none 0 0, .slice none 0 0, .slice none 0 0, .slice none 0 0], .int .u16 0, .int .u8 0] 8 rfl (World.shaped_of_RefB (by kernel_rfl) (by kernel_rfl)) (by kernel_rfl) (by kernel_rfl) (by kernel_rfl) (door_met os _)) ?_
  intro W base args ds gs before hval0 hW _ _ hL _
  have hval : ∀ (j : Nat) t v, Tryz.f7.params[j]? = some t → args[j]? = some v → Value.okWide Tryz.prog W .any base t v := hval0
  have hW' := hW
  have hlt := hW.lt
  obtain ⟨p, q, hA0, hV, rfl, hfz, hnd⟩ := hW
  have hA : DataW.TrodAll enc Tryz.prog W 0 (fun _ => true) true Tryz.f7.params.toList args.toList ds p := hA0
  rw [Tryz.params7] at hA hval
  obtain ⟨v0, v1, v2, d0, d1, d2, p0, p1, p2, rfl, rfl, rfl, h0, h1, h2⟩ := trodAll_three hA
  obtain ⟨rfl, rfl⟩ := trodVars_none hV
  obtain ⟨i, vo, vd, vf, vs, rfl, hi, hq⟩ := iface_arg (hval 0 27 v0 rfl rfl) h0
  obtain ⟨a, hn1⟩ := okWide_int Tryz.underlying45 (hval 1 45 v1 rfl rfl)
  subst hn1
  obtain ⟨fz1, hz1⟩ := h1
  obtain ⟨_, ez1, _, hw1⟩ := DataW.trod_int Tryz.underlying45 (show DataW.trod enc Tryz.prog W 0 (fun _ => true) true fz1 45 [.int .u16 a] = some _ from hz1)
  simp only [List.cons.injEq, and_true, Value.int.injEq, true_and] at ez1
  subst ez1
  have h1 : DataW.Trod enc Tryz.prog W 0 (fun _ => true) true 45 (.int .u16 a) d1 p1 := ⟨fz1, hz1⟩
  obtain ⟨b, hn2⟩ := okWide_int Tryz.underlying5 (hval 2 5 v2 rfl rfl)
  subst hn2
  obtain ⟨fz2, hz2⟩ := h2
  obtain ⟨_, ez2, _, hw2⟩ := DataW.trod_int Tryz.underlying5 (show DataW.trod enc Tryz.prog W 0 (fun _ => true) true fz2 5 [.int .u8 b] = some _ from hz2)
  simp only [List.cons.injEq, and_true, Value.int.injEq, true_and] at ez2
  subst ez2
  have h2 : DataW.Trod enc Tryz.prog W 0 (fun _ => true) true 5 (.int .u8 b) d2 p2 := ⟨fz2, hz2⟩
  clear hA0 hval0
  simp only [List.append_nil] at hW' hlt
  refine (turned_law i vo vd vf vs a b _ W hi (u16_ok hw1) (u8_ok hw2) (of_laid hL)).mono fun e W' ⟨he, hc⟩ => ?_
  subst he
  exact ⟨_, rfl, post_of_below (pa := p0 ++ (p1 ++ p2)) (pv := []) hW' (fun _ _ _ => trodAll_mk1 (shut_bool Tryz.underlying4 _))
    (fun sp hs => trodAll_mk3 (trod_kept (by kernel_rfl) (of_decide_eq_true (by kernel_rfl)) h0 hc.old (fun x hx => hlt x (List.mem_append.2 (.inl (List.mem_append.2 (.inl hx))))) (fun x hx => hs x (List.mem_append.2 (.inl (List.mem_append.2 (.inl hx)))))) (trod_kept (by kernel_rfl) (of_decide_eq_true (by kernel_rfl)) h1 hc.old (fun x hx => hlt x (List.mem_append.2 (.inl (List.mem_append.2 (.inr hx))))) (fun x hx => hs x (List.mem_append.2 (.inl (List.mem_append.2 (.inr hx)))))) (trod_kept (by kernel_rfl) (of_decide_eq_true (by kernel_rfl)) h2 hc.old (fun x hx => hlt x (List.mem_append.2 (.inr hx))) (fun x hx => hs x (List.mem_append.2 (.inr hx))))) (fun _ _ => rfl) (by simp)
    hc.old (ok_one (by kernel_rfl) rfl (okWide_bool_mk Tryz.underlying4 _))⟩
theorem ifaceTurned_row : Rows.IfaceTurnedSaid :=
  OpenClaim.holds_of_wide 7 Tryz.f7 rfl rfl rfl rfl rfl rfl rfl ⟨rfl, rfl, rfl, rfl, rfl⟩ rfl rfl rfl rfl rfl (by kernel_rfl) Tryz.func7 (by kernel_rfl)
    (of_decide_eq_true (by kernel_rfl)) (by unfold Func.isWrapper; first | (rw [if_pos (by decide +kernel)]; kernel_rfl) | (rw [if_neg (by decide +kernel)]; exact ⟨rfl, rfl⟩))
    (fun os started H enc _ => ifaceTurned_lifted os started H enc)
theorem ifaceTurned_holds : Rows.IfaceTurnedCardSaid :=
  Claim7.holds_tied_plain_at .later [] [.listed, .data] true (true, "39c7300324806c6cbfe5c0161aee06e22058f9b6fadb20fdd3a5c4ce163557d7") false
    ifaceTurned_row (fun _ h => by cases h) (by kernel_rfl) (fun _ h => by cases h) ifaceTurned_row_tie rfl ⟨rfl, rfl⟩ (by kernel_rfl) rfl
    (fun f fn hf hfn => by
      obtain rfl : f = 7 := Option.some.inj ((show Tryz.prog.funcNamed "triglyph/triglyphlaw23.IfaceTurned" = some 7 by kernel_rfl).symm.trans hf) |>.symm
      obtain rfl : fn = Tryz.f7 := (Option.some.inj (Tryz.func7.symm.trans hfn)).symm
      exact ⟨by kernel_rfl, fun j t ht => by
        rw [Tryz.params7] at ht
        have hm : t ∈ [27, 45, 5] := by simpa using Array.mem_of_getElem? ht
        have hall : ([27, 45, 5].all fun u => !Tryz.prog.wantsStandIn u) = true := by kernel_rfl
        exact (show Tryz.prog.wantsStandIn t = false by simpa using List.all_eq_true.1 hall t hm)⟩)
    (by kernel_rfl)
#print axioms ifaceTurned_holds
end Go.Proofs.YtinekmjengckdaaGreatDoor
