/-
  HeapReads: for every size, every row of acts, every word and every place the law returns true, and its arguments read afterwards as they read before. No condition.
-/
import Derived.Test.YtlgkgglecgdkgaaReads
import Derived.Test.YtlgkgglecgdkgaaActsP
namespace Go.Proofs.Ytlgkgglecgdkgaa
open Go.ChangeShapes Go.WideShapes Go.ChangeAt Go.RowKit

theorem reads_any (l : List ActM) (n x at_ : Int) (c : Nat) (A : Option Addr) (w : World) (h : RdActs w A l) (hl : l.length ≤ maxLen) (hx : 0 ≤ x ∧ x ≤ 18446744073709551615) :
    Calls Try.prog 5 #[.int .i64 n, .slice A l.length c, .int .u64 x, .int .i64 at_] w fun e w' => e = .returned (.bool true) ∧ Chg (fun _ => False) w w' := by
  obtain ⟨x, rfl⟩ := Int.eq_ofNat_of_zero_le hx.1
  unfold maxLen at hl
  by_cases ho : fewL l = false ∨ n < 16 ∨ 500 < n
  · exact reads_out l n at_ x c A w h (by omega) ho
  · have hf : fewL l = true := by
      cases e : fewL l with
      | true => rfl
      | false => exact absurd (.inl e) ho
    obtain ⟨m, rfl⟩ := Int.eq_ofNat_of_zero_le (show 0 ≤ n by omega)
    exact reads_in l m x c at_ A w h hf (by omega) (by omega) (by omega)

set_option maxRecDepth 100000 in
theorem heapReads_lifted (os : Os) (started : os.Started) (H : Type) (enc : TypeId × Value → H) :
    ReturnsInHanded {} Try.checked os 5 .any (Rows.heapReadsSpec.pre6 enc Try.prog Try.f5 Rows.heapReadsRow.domain false) (Rows.heapReadsSpec.post enc Try.prog Try.f5 false true false false) := by
  refine returnsInHanded_of_change (C := Try.checked) Try.own started (by kernel_rfl) Try.func5
    (ChangeSpec.witness6 (enc := enc) (C := Try.checked) false ⟨#[], #[.int .i64 0, .slice none 0 0, .int .u64 0, .int .i64 0], []⟩ 8 (by kernel_rfl) (by kernel_rfl) (by kernel_rfl) (by kernel_rfl)) ?_
  intro W base args ds gs before hval0 hW hcnd _
  have hval : ∀ (j : Nat) t v, Try.f5.params[j]? = some t → args[j]? = some v → Value.okWide Try.prog W .any base t v := hval0
  have hW' := hW
  have hlt := hW.lt
  obtain ⟨p, q, hA0, hV, rfl, hfz, hnd⟩ := hW
  have hA : DataW.TrodAll enc Try.prog W 0 (fun _ => true) true Try.f5.params.toList args.toList ds p := hA0
  rw [Try.params5] at hA hval
  obtain ⟨v0, v1, v2, v3, d0, d1, d2, d3, p0, p1, p2, p3, rfl, rfl, rfl, h0, h1, h2, h3⟩ := trodAll_four hA
  obtain ⟨rfl, rfl⟩ := trodVars_none hV
  obtain ⟨a, rfl, rfl, rfl, wa⟩ := open_int Try.underlying3 (hval 0 3 v0 rfl rfl) h0
  obtain ⟨A, l, c, rfl, hl, hlen⟩ := open_acts (hval 1 37 v1 rfl rfl) h1
  obtain ⟨b, rfl, rfl, rfl, wb⟩ := open_int Try.underlying22 (hval 2 22 v2 rfl rfl) h2
  obtain ⟨d, rfl, rfl, rfl, wd⟩ := open_int Try.underlying3 (hval 3 3 v3 rfl rfl) h3
  clear hA0 hval0
  simp only [List.append_nil, List.nil_append] at hW' hlt
  have hb : 0 ≤ b ∧ b ≤ 18446744073709551615 := by simpa [Lit.wf, IntKind.min, IntKind.max, IntKind.signed, IntKind.bits] using wb
  refine (reads_any l a b d c A W hl hlen hb).mono fun e W' ⟨he, hc⟩ => ?_
  subst he
  exact ⟨_, rfl, post_of_below (pa := p1) (pv := []) hW' (fun _ _ _ => trodAll_mk1 (shut_bool Try.underlying4 _))
    (fun sp hs => by
      have := trodAll_mk4 (P := Try.prog) (enc := enc) (w := W') (shut_int Try.underlying3 wa) (trod_kept (by kernel_rfl) (of_decide_eq_true (by kernel_rfl)) h1 hc.old hlt hs) (shut_int Try.underlying22 wb) (shut_int Try.underlying3 wd)
      simp only [List.append_nil, List.nil_append] at this
      exact this)
    (fun _ _ => rfl) (by simp)
    hc.old (ok_one (by kernel_rfl) rfl (okWide_bool_mk Try.underlying4 _))⟩

theorem heapReads_holds : Rows.HeapReadsSaid :=
  OpenClaim.holds_of_wide 5 Try.f5 rfl rfl rfl rfl rfl rfl rfl ⟨rfl, rfl, rfl, rfl, rfl⟩ rfl rfl rfl rfl rfl (by kernel_rfl) Try.func5 (by kernel_rfl)
    (of_decide_eq_true (by kernel_rfl)) (by unfold Func.isWrapper; first | (rw [if_pos (by decide +kernel)]; kernel_rfl) | (rw [if_neg (by decide +kernel)]; exact ⟨rfl, rfl⟩))
    (fun os started H enc _ => heapReads_lifted os started H enc)
end Go.Proofs.Ytlgkgglecgdkgaa
