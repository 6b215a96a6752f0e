/-
  Layer 19: that a function begins at a place: the walk.
-/
import Derived.Test.YtejkaalhjocmgaaDoorWm
namespace Go.Proofs.YtejkaalhjocmgaaDoor
open Go.RowKit
set_option maxHeartbeats 1000000
set_option maxRecDepth 100000
theorem wpList_unguard {P : Program} {ops : Array Oper} {Q : Exit → Act → World → Prop} {rest : List Oper} {o : Oper} {a : Act} {w : World} (hw : Region.wanted o (yielded ops a.tmps) = true) (h : wpList P ops Q ({ o with guard := none } :: rest) a w) : wpList P ops Q (o :: rest) a w := by
  unfold wpList at h ⊢
  rw [if_pos hw]
  rw [if_pos (by simp [Region.wanted])] at h
  exact h
theorem keyed3 : Go.Maps.Keyed Tryd.prog 3 := Go.Maps.int_keyed Tryd.underlying3
theorem zero3 (w : World) : (zeroValue 3).run Tryd.prog w = .ok (.int .i64 0) w := by kernel_rfl
theorem ikey_inj (x y : I64) (h : ikey x = ikey y) : x = y := by
  unfold ikey at h
  injection h with _ h
  exact Subtype.ext h
theorem ikey_lit (x : I64) : WideAt.IsKeyLit (ikey x) := trivial
theorem CMem.hasUpd {w w' : World} {base c b mp n L N : Nat} {pv cv v5 : Value} {f : I64 → Option Int} {cs : Array Value} {C : PC} (h : CMem w base c b mp n L pv cv v5 f cs C) {y : I64} {v : Int} (hN : N ≤ L) (hm : MapK Tryd.prog 3 3 .i64 ikey w' mp (N + 1) (fun z => if z = y then some v else f z)) (hc : Chg (· = mp) w w') :
    CMem w' base c b mp n (L + 1) pv cv v5 (fun z => if z = y then some v else f z) cs ⟨C.at_, upd C.has y.val v, C.work, C.bad⟩ := by
  have hs := hc.size
  have hb := h.base_
  refine ⟨h.ck.chg hc (fun e => h.ncm e), h.ats.chg hc (fun e => h.nbm e) (fun t ht _ e => ht.2.2.2.1 e) (fun t ht _ => ⟨by have := ht.1; omega, ht.2⟩), h.len, ⟨N + 1, by omega, hm⟩, fun z => ?_, own_chg h.wk hc (fun k hk e => h.nom (e ▸ hk)), h.tl, ⟨hb.1, hb.2.1, hb.2.2.1, by omega⟩⟩
  show upd C.has y.val v z.val = _
  unfold upd
  by_cases hz : z = y
  · subst hz
    simp
  · rw [if_neg hz, if_neg (fun e => hz (Subtype.ext e))]
    exact h.has z
theorem begin_any {w : World} {base c b mp n L : Nat} {pv v5 : Value} {cA : Option Addr} {cc : Nat} {f : I64 → Option Int} {cs : Array Value} {C : PC} (h : CMem w base c b mp n L pv (.slice cA n cc) v5 f cs C) (o k : Int) (hn : n ≤ 100000) (ho : 0 ≤ o ∧ o ≤ 100000000) (hk : 0 ≤ k ∧ k ≤ 100000000) (hw : C.work.length ≤ 100000) (hL : L ≤ 1000000) :
    Calls Tryd.prog 48 #[.pointer (some ⟨c, 0, none⟩), .int .i64 o, .int .i64 k] w fun e w' => e = .returned (.tuple #[]) ∧ COut w w' base c b mp n (L + 1) pv (.slice cA n cc) v5 (C.begin_ n o k) := by
  obtain ⟨N, hN, hm⟩ := h.mp_
  have hy := h.has ⟨o, by omega⟩
  have hE : C.begin_ n o k = if 0 < C.has o ∧ C.has o ≠ k + 1 then C.badly else PC.come n ⟨C.at_, upd C.has o (k + 1), C.work, C.bad⟩ o.toNat ⟨o, 1, []⟩ := rfl
  have x3 := h.ck.cell 3
  have x5 := h.ck.cell 5
  have f5 := h.ck.frozen 5
  have hlt := h.ck.lt
  simp only [List.getElem?_toArray, List.getElem?_cons_zero, List.getElem?_cons_succ] at x3 x5
  have hkey : keyOf Tryd.prog 3 (.int .i64 o) = some (ikey ⟨o, by omega⟩) := Maps.keyOf_int_mk Tryd.underlying3 (WalkArith.wf_i64 (by omega))
  have hwf : (Lit.int .i64 (k + 1)).wf = true := WalkArith.wf_i64 (by omega)
  have hN2 : N < maxLen := by simp only [maxLen]; omega
  generalize hv : C.has o = v at *
  have HV := hide hv
  have hy2 : (f ⟨o, by omega⟩).getD 0 = v := hy.symm
  have HY := hide hy2
  have HM := hide hm
  have HK := hide hkey
  have HWF := hide hwf
  have H := hide h
  have HE := hide hE
  clear h hm hy hy2 hkey hwf hE hv
  obtain ⟨t, rfl⟩ := Int.eq_ofNat_of_zero_le ho.1
  by_cases hbad : 0 < v ∧ v ≠ k + 1
  · obtain ⟨g1, g2⟩ := hbad
    have g3 : (v != k + 1) = true := by rw [bne_iff_ne]; exact g2
    have HE2 := hide (show C.begin_ n (t : Int) k = C.badly by rw [unhide HE, if_pos ⟨g1, g2⟩])
    clear g2
    go_enter Tryd.func48, Tryd.ntmps48
    go_wp2_with (first
      | (at_lookup; refine wpList_lookup_k1 rfl (.tmp 9) (.tmp 10) 65 rfl keyed3 Tryd.underlying65 Tryd.underlying3 (zero3 _) rfl (unhide HM) _ ⟨(t : Int), by omega⟩ rfl (unhide HK) ?_; rw [unhide HY])
      | (at_lookup; refine wpList_unguard (by rfl) (wpList_lookup_k1 rfl (.tmp 17) (.tmp 18) 65 rfl keyed3 Tryd.underlying65 Tryd.underlying3 (zero3 _) rfl (unhide HM) _ ⟨(t : Int), by omega⟩ rfl (unhide HK) ?_); rw [unhide HY]))
    refine bodyPost_ret (results_none (by kernel_rfl) _ _ _) rfl ⟨rfl, v5, f, cs, ?_, (Chg.refl _ w).setCell (fun _ => .inl rfl) _, .inl rfl⟩
    rw [unhide HE2]
    have hb := (unhide H).badly
    obtain ⟨N', hN', hm'⟩ := hb.mp_
    exact ⟨hb.ck, hb.ats, hb.len, ⟨N', by omega, hm'⟩, hb.has, hb.wk, hb.tl, hb.base_⟩
  · have HE2 := hide (show C.begin_ n (t : Int) k = PC.come n ⟨C.at_, upd C.has (t : Int) (k + 1), C.work, C.bad⟩ t ⟨(t : Int), 1, []⟩ by rw [unhide HE, if_neg hbad]; rfl)
    have hcase : (0 < v ∧ (v != k + 1) = false) ∨ decide (0 < v) = false := by
      by_cases h1 : 0 < v
      · refine .inl ⟨h1, ?_⟩
        cases h2 : (v != k + 1) with
        | false => rfl
        | true => exact absurd ⟨h1, by rwa [bne_iff_ne] at h2⟩ hbad
      · exact .inr (decide_eq_false h1)
    clear hbad
    rcases hcase with ⟨g1, g2⟩ | g1
    all_goals
      go_enter Tryd.func48, Tryd.ntmps48
      go_wp2_with (first
        | (at_lookup; refine wpList_lookup_k1 rfl (.tmp 9) (.tmp 10) 65 rfl keyed3 Tryd.underlying65 Tryd.underlying3 (zero3 _) rfl (unhide HM) _ ⟨(t : Int), by omega⟩ rfl (unhide HK) ?_; rw [unhide HY])
        | (at_lookup; refine wpList_unguard (by rfl) (wpList_lookup_k1 rfl (.tmp 17) (.tmp 18) 65 rfl keyed3 Tryd.underlying65 Tryd.underlying3 (zero3 _) rfl (unhide HM) _ ⟨(t : Int), by omega⟩ rfl (unhide HK) ?_); rw [unhide HY])
        | (at_mapUpdate; refine wpList_update_k rfl (.tmp 30) (.tmp 31) (.tmp 33) 65 rfl ikey_inj ikey_lit keyed3 Tryd.underlying65 Tryd.underlying3 rfl (unhide HM) hN2 _ ⟨(t : Int), by omega⟩ (k + 1) rfl rfl (unhide HWF) (unhide HK) ?_
           intro w1 hm1 hc1
           have HC1 := hide hc1
           have HU := hide ((unhide H).hasUpd hN hm1 hc1)
           clear hm1 hc1)
        | (go_at_call 32
           refine (come_any (unhide HU) t ⟨(t : Int), 1, []⟩ (.slice none 0 0) false hn (by omega) (RdI.nil_ _ _) (Nat.zero_le _) hw).mono ?_
           rintro e w2 ⟨rfl, hco⟩
           have HCO := hide hco
           clear hco))
      go_end0
      obtain ⟨v5', f', cs', q1, q2, q3⟩ := unhide HCO
      have hs1 := (unhide HC1).size
      refine ⟨rfl, v5', f', cs', ?_, ((unhide HC1).mono (fun _ _ e => .inr (.inr (.inl e)))).trans q2 (fun _ _ h => h), q3.imp id (fun ⟨k, e1, e2⟩ => ⟨k, e1, by omega⟩)⟩
      rw [unhide HE2]
      exact q1
end Go.Proofs.YtejkaalhjocmgaaDoor
