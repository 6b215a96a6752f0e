/-
  HeapPlays: for every size and every row of acts the law returns true, and its arguments read afterwards as they read before. No condition.
-/
import Derived.Test.YtlgkgglecgdkgaaPlayZ
import Derived.Test.YtlgkgglecgdkgaaActsP
namespace Go.Proofs.Ytlgkgglecgdkgaa
open Go.ChangeShapes Go.WideShapes Go.ChangeAt Go.RowKit

theorem plays_any (l : List ActM) (n : Int) (c : Nat) (A : Option Addr) (w : World) (h : RdActs w A l) (hl : l.length ≤ maxLen) :
    Calls Try.prog 4 #[.int .i64 n, .slice A l.length c] w fun e w' => e = .returned (.bool true) ∧ Chg (fun _ => False) w w' := by
  unfold maxLen at hl
  by_cases ho : fewL l = false ∨ 500 < n
  · exact plays_out l n c A w h (by omega) ho
  · have hf : fewL l = true := by
      cases e : fewL l with
      | true => rfl
      | false => exact absurd (.inl e) ho
    by_cases h16 : n < 16
    · exact plays_low l n c A w h hf h16
    · obtain ⟨m, rfl⟩ := Int.eq_ofNat_of_zero_le (show 0 ≤ n by omega)
      exact plays_in l m c A w h hf (by omega) (by omega)

set_option maxRecDepth 100000 in
theorem heapPlays_lifted (os : Os) (started : os.Started) (H : Type) (enc : TypeId × Value → H) :
    ReturnsInHanded {} Try.checked os 4 .any (Rows.heapPlaysSpec.pre6 enc Try.prog Try.f4 Rows.heapPlaysRow.domain false) (Rows.heapPlaysSpec.post enc Try.prog Try.f4 false true false false) := by
  refine returnsInHanded_of_change (C := Try.checked) Try.own started (by kernel_rfl) Try.func4
    (ChangeSpec.witness6 (enc := enc) (C := Try.checked) false ⟨#[], #[.int .i64 0, .slice none 0 0], []⟩ 8 (by kernel_rfl) (by kernel_rfl) (by kernel_rfl) (by kernel_rfl)) ?_
  intro W base args ds gs before hval0 hW hcnd _
  have hval : ∀ (j : Nat) t v, Try.f4.params[j]? = some t → args[j]? = some v → Value.okWide Try.prog W .any base t v := hval0
  have hW' := hW
  have hlt := hW.lt
  obtain ⟨p, q, hA0, hV, rfl, hfz, hnd⟩ := hW
  have hA : DataW.TrodAll enc Try.prog W 0 (fun _ => true) true Try.f4.params.toList args.toList ds p := hA0
  rw [Try.params4] at hA hval
  obtain ⟨v0, v1, d0, d1, p0, p1, rfl, rfl, rfl, h0, h1⟩ := trodAll_two hA
  obtain ⟨rfl, rfl⟩ := trodVars_none hV
  obtain ⟨a, rfl, rfl, rfl, wa⟩ := open_int Try.underlying3 (hval 0 3 v0 rfl rfl) h0
  obtain ⟨A, l, c, rfl, hl, hlen⟩ := open_acts (hval 1 37 v1 rfl rfl) h1
  clear hA0 hval0
  simp only [List.append_nil, List.nil_append] at hW' hlt
  refine (plays_any l a c A W hl hlen).mono fun e W' ⟨he, hc⟩ => ?_
  subst he
  exact ⟨_, rfl, post_of_below (pa := p1) (pv := []) hW' (fun _ _ _ => trodAll_mk1 (shut_bool Try.underlying4 _))
    (fun sp hs => by
      have := trodAll_mk2 (P := Try.prog) (enc := enc) (w := W') (shut_int Try.underlying3 wa) (trod_kept (by kernel_rfl) (of_decide_eq_true (by kernel_rfl)) h1 hc.old hlt hs)
      simp only [List.append_nil, List.nil_append] at this
      exact this)
    (fun _ _ => rfl) (by simp)
    hc.old (ok_one (by kernel_rfl) rfl (okWide_bool_mk Try.underlying4 _))⟩

theorem heapPlays_holds : Rows.HeapPlaysSaid :=
  OpenClaim.holds_of_wide 4 Try.f4 rfl rfl rfl rfl rfl rfl rfl ⟨rfl, rfl, rfl, rfl, rfl⟩ rfl rfl rfl rfl rfl (by kernel_rfl) Try.func4 (by kernel_rfl)
    (of_decide_eq_true (by kernel_rfl)) (by unfold Func.isWrapper; first | (rw [if_pos (by decide +kernel)]; kernel_rfl) | (rw [if_neg (by decide +kernel)]; exact ⟨rfl, rfl⟩))
    (fun os started H enc _ => heapPlays_lifted os started H enc)
end Go.Proofs.Ytlgkgglecgdkgaa
