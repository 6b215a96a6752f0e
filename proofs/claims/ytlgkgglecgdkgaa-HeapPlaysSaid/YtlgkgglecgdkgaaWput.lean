/-
  The walk of the heap's put.
-/
import Derived.Test.YtlgkgglecgdkgaaWsmall
namespace Go.Proofs.Ytlgkgglecgdkgaa
open Go.RowKit
set_option maxHeartbeats 400000
set_option maxRecDepth 100000

theorem need_any (a : Int) (w : World) (h0 : 0 ≤ a) (h1 : a ≤ 9223372036854775806) :
    Calls Try.prog 10 #[.int .i64 a] w fun e w' => e = .returned (.int .i64 (a+1)) ∧ w = w' := by
  go_enter Try.func10, Try.ntmps10
  go_wp2
  go_ret
  exact ⟨rfl, rfl⟩

theorem info26 : (Try.prog.info? 26).map (fun i => (i.zero, i.size, i.bytes)) = some (some (.int .u64 0), 1, 8) := by kernel_rfl

theorem put_no (M : HM) (g bn bo bb first m c : Nat) (A : Option Addr) (w : World) (h : HRep w g bn bo bb M) (hm : m ≤ 1048576) (hl : M.size < M.now.length + m + 1) :
    Calls Try.prog 36 #[.pointer (some ⟨g, 0, none⟩), .int .u64 first, .slice A m c] w fun e w' => e = .returned (.tuple #[.int .u64 0, .bool false]) ∧ ∃ n, w' = w.drewN n := by
  have Hh := hide h
  have hlen := h.len
  clear h
  go_enter Try.func36, Try.ntmps36
  go_wp2_with (first
    | (go_at_call 25; refine (left_any M g bn bo bb _ (unhide Hh)).mono ?_; rintro e w' ⟨rfl, n1, rfl⟩)
    | (go_at_call 10; refine (need_any _ _ (by omega) (by omega)).mono ?_; rintro e w' ⟨rfl, rfl⟩))
  go_ret2
  exact ⟨rfl, _, rfl⟩

theorem put_yes (M : HM) (g bn bo bb first c : Nat) (A : Option Addr) (rest : List Nat) (T : Nat → Prop) (w : World) (h : HRep w g bn bo bb M)
    (hT : ∀ b, T b → b ≠ g ∧ b ≠ bn ∧ b ≠ bb) (hr : Rd T w A (rest.map wv)) (hl : M.now.length + rest.length + 1 ≤ M.size)
    (hf : first < 18446744073709551616) (hrr : ∀ x ∈ rest, x < 18446744073709551616) :
    Calls Try.prog 36 #[.pointer (some ⟨g, 0, none⟩), .int .u64 first, .slice A rest.length c] w fun e w' =>
      e = .returned (.tuple #[.int .u64 ((2 * M.now.length : Nat) : Int), .bool true]) ∧ HRep w' g bn bo bb (M.put first rest) ∧ Chg (fun k => k = g ∨ k = bn ∨ k = bb) w w' := by
  have Hh := hide h
  have hs := h.ok.s
  have n1 : g ≠ bn := h.st.ne_ h.rn (by decide)
  have n2 : g ≠ bo := h.st.ne_ h.ro (by decide)
  have n3 : g ≠ bb := h.st.ne_ h.rb (by decide)
  have n4 : bn ≠ bb := h.rn.ne_ h.rb (by decide)
  have n5 : bo ≠ bb := h.ro.ne_ h.rb (by decide)
  have n6 := h.ne
  obtain ⟨i0, hi0, hz0, hz1, hz2⟩ := info_parts info26
  have c0 := h.c0
  have c3 := h.c3
  have cb := h.cb (i := M.now.length) (by omega)
  have f0 := h.st.frozen 0
  have fb := h.rb.frozen M.now.length
  have Hr := hide hrr
  have Hf := hide hf
  have HT := hide hT
  have HR := hide hr
  clear h hrr hf hT hr
  go_enter Try.func36, Try.ntmps36
  go_wp2_with (first
    | (go_at_call 25; refine (left_any M g bn bo bb _ (unhide Hh)).mono ?_; rintro e w' ⟨rfl, k1, rfl⟩)
    | (go_at_call 10; refine (need_any _ _ (by omega) (by omega)).mono ?_; rintro e w' ⟨rfl, rfl⟩)
    | (at_builtin
       refine wpList_append_blk _ rfl (.tmp 30) (.tmp 32) 46 rfl 26 i0 1 Try.underlying46 hi0 hz1 bn M.now.length M.size _ rfl ((((unhide Hh).rn.drewN k1).far n4 _).alloc _) _ _ 1 1 [wv first] rfl (rd_new _ _ 26 [wv first] (by simp [World.setCell, World.drewN])) rfl (wv_one [first]) (by omega) (by simp; have := (unhide Hh).ok.n; omega) ?_
       intro w2 hb2 hc2
       have hC2 : Chg (fun k => k = g ∨ k = bn ∨ k = bb) w w2 := ((((Chg.refl _ w).drewN k1).setCell (p := ⟨bb, M.now.length, none⟩) (fun _ => .inr (.inr rfl)) (.bool true)).alloc (.cells #[.int .u64 first] 26)).trans hc2 (fun i _ e => .inr (.inl e))
       rw [row_app M.now M.nsp [first] [wv first] rfl _ rfl] at hb2
       have hg2 := (((((unhide Hh).st.drewN k1).far (p := ⟨bb, M.now.length, none⟩) n3 (.bool true)).alloc (.cells #[.int .u64 first] 26))).chg hc2 n1
       have ho2 := (((((unhide Hh).ro.drewN k1).far (p := ⟨bb, M.now.length, none⟩) n5 (.bool true)).alloc (.cells #[.int .u64 first] 26))).chg hc2 (Ne.symm n6)
       have hbb2 := (((((unhide Hh).rb.drewN k1).set_ M.now.length (.bool true)).alloc (.cells #[.int .u64 first] 26))).chg hc2 (Ne.symm n4)
       have Hrd := hide ((unhide HR).chg hC2 (fun b hb _ => by have := (unhide HT) b hb; omega)))
    | (at_builtin
       refine wpList_append_blk _ rfl (.tmp 33) (.tmp 34) 46 rfl 26 i0 1 Try.underlying46 hi0 hz1 bn (M.now.length + 1) M.size _ rfl hb2 _ _ rest.length c (rest.map wv) rfl (unhide Hrd) (by simp) (wv_one rest) (by omega) (by simp; have := (unhide Hh).ok.n; omega) ?_
       intro w3 hb3 hc3
       rw [row_app (M.now ++ [first]) (M.nsp.drop [first].length) rest (rest.map wv) rfl _ (by simp)] at hb3
       have hg3 := hg2.chg hc3 n1
       have ho3 := ho2.chg hc3 (Ne.symm n6)
       have hbb3 := hbb2.chg hc3 (Ne.symm n4)
       have hC3 := hC2.trans hc3 (fun i _ e => .inr (.inl e))
       have c03 := hg3.cell 0
       have f03 := hg3.frozen 0
       simp only [List.getElem?_toArray, List.getElem?_cons_zero] at c03))
  go_ret2
  refine ⟨retv (tup2 (intv ?_) rfl), ?_, ?_⟩
  · omega
  · have eg := hg3.set_ 0 (.slice (some ⟨bn, 0, none⟩) (M.now.length + 1 + rest.length) M.size)
    have en := hb3.far (p := ⟨g, 0, none⟩) (Ne.symm n1) (.slice (some ⟨bn, 0, none⟩) (M.now.length + 1 + rest.length) M.size)
    have eo := ho3.far (p := ⟨g, 0, none⟩) (Ne.symm n2) (.slice (some ⟨bn, 0, none⟩) (M.now.length + 1 + rest.length) M.size)
    have eb := hbb3.far (p := ⟨g, 0, none⟩) (Ne.symm n3) (.slice (some ⟨bn, 0, none⟩) (M.now.length + 1 + rest.length) M.size)
    rw [begs_set] at eb
    have e1 : (M.put first rest).now.length = M.now.length + 1 + rest.length := by simp [HM.put]; omega
    refine ⟨?_, ?_, eo, eb, n6, HM.put_ok (unhide Hh).ok first rest (unhide Hf) (unhide Hr) hl⟩
    · rw [e1]; exact eg
    · have e2 : (M.put first rest).now ++ (M.put first rest).nsp = ((M.now ++ [first]) ++ rest) ++ (M.nsp.drop [first].length).drop rest.length := by
        simp [HM.put, Nat.add_comm]
      rw [e2]; exact en
  · exact hC3.setCell (fun _ => .inl rfl) _
end Go.Proofs.Ytlgkgglecgdkgaa
