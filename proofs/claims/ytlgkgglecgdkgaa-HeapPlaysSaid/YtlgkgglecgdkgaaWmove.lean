/-
  Walks of the heap's Num, IsNum, move.
-/
import Derived.Test.YtlgkgglecgdkgaaWnew
import Derived.Deep.RegionLaw
namespace Go.Proofs.Ytlgkgglecgdkgaa
open Go.RowKit
set_option maxHeartbeats 400000
set_option maxRecDepth 100000

theorem num_any (n : Int) (w : World) :
    Calls Try.prog 8 #[.int .i64 n] w fun e w' => e = .returned (.int .u64 ((numW n : Nat) : Int)) ∧ w = w' := by
  go_enter Try.func8, Try.ntmps8
  go_wp2
  go_ret
  exact ⟨retv (intv (num_eq n)), rfl⟩
theorem isNum_any (x : Nat) (w : World) (hx : x < 18446744073709551616) :
    Calls Try.prog 7 #[.int .u64 (x : Int)] w fun e w' => e = .returned (.tuple #[.int .i64 (isNumV x), .bool (x % 2 == 1)]) ∧ w = w' := by
  have ha := and1 x hx
  by_cases h1 : x % 2 = 1
  · have hb : (bits .and .u64 (x : Int) 1 == 0) = false := by rw [ha, h1]; rfl
    have H := hide (show isNumV x = wrap64 (x : Int) / 2 ∧ (x % 2 == 1) = true by simp [isNumV, h1])
    clear ha h1
    go_enter Try.func7, Try.ntmps7
    go_wp2
    go_ret2
    rw [(unhide H).1, (unhide H).2]
    exact ⟨rfl, rfl⟩
  · have hb : (bits .and .u64 (x : Int) 1 == 0) = true := by rw [ha, show x % 2 = 0 by omega]; rfl
    have H := hide (show isNumV x = 0 ∧ (x % 2 == 1) = false by simp [isNumV, h1])
    clear ha h1
    go_enter Try.func7, Try.ntmps7
    go_wp2
    go_ret2
    rw [(unhide H).1, (unhide H).2]
    exact ⟨rfl, rfl⟩

theorem move_num (M : HM) (g bn bo bb x n c : Nat) (A : Option Addr) (w : World) (h : HRep w g bn bo bb M) (hx : x < 18446744073709551616) (h1 : x % 2 = 1) :
    Calls Try.prog 38 #[.pointer (some ⟨g, 0, none⟩), .int .u64 (x : Int), .slice A n c] w fun e w' => e = .returned (.int .u64 (x : Int)) ∧ w = w' := by
  have ha := and1 x hx
  have hb : (bits .and .u64 (x : Int) 1 == 1) = true := by rw [ha, h1]; rfl
  have Hc := at_any M g bn bo bb x w h hx
  rw [show M.at x = none by simp [HM.at, h1]] at Hc
  have HC := hide Hc
  clear h h1 ha Hc
  go_enter Try.func38, Try.ntmps38
  go_wp2_with (go_at_call 43; refine (unhide HC).mono ?_; rintro e w' ⟨rfl, rfl⟩)
  go_ret
  exact ⟨rfl, rfl⟩
theorem move_bad (M : HM) (g bn bo bb x n c : Nat) (A : Option Addr) (w : World) (h : HRep w g bn bo bb M) (hx : x < 18446744073709551616) (h1 : x % 2 = 0) (h2 : M.at x = none) :
    Calls Try.prog 38 #[.pointer (some ⟨g, 0, none⟩), .int .u64 (x : Int), .slice A n c] w fun e w' => e = .returned (.int .u64 1) ∧ w = w' := by
  have ha := and1 x hx
  have hb : (bits .and .u64 (x : Int) 1 == 1) = false := by rw [ha, h1]; rfl
  have Hc := at_any M g bn bo bb x w h hx
  rw [h2] at Hc
  have HC := hide Hc
  clear h h1 ha Hc h2
  go_enter Try.func38, Try.ntmps38
  go_wp2_with (first
    | (go_at_call 43; refine (unhide HC).mono ?_; rintro e w' ⟨rfl, rfl⟩)
    | (go_at_call 8; refine (num_any 0 _).mono ?_; rintro e w' ⟨rfl, rfl⟩))
  go_ret
  exact ⟨rfl, rfl⟩
theorem move_fwd (M : HM) (g bn bo bb x n c : Nat) (A : Option Addr) (w : World) (h : HRep w g bn bo bb M) (hx : x < 18446744073709551616) (h2 : M.at x = some (x / 2)) (h3 : M.now.getD (x / 2) 0 % 8 = 0) :
    Calls Try.prog 38 #[.pointer (some ⟨g, 0, none⟩), .int .u64 (x : Int), .slice A n c] w fun e w' => e = .returned (.int .u64 ((M.now.getD (x / 2) 0 / 8 * 2 : Nat) : Int)) ∧ w = w' := by
  have Hc := at_any M g bn bo bb x w h hx
  rw [h2] at Hc
  have HC := hide Hc
  obtain ⟨_, h4, h5, _⟩ := HM.at_some h2
  have c0 := h.c0
  have hl := h.len
  have hs := h.ok.s
  have cn := h.cn h5
  have hd := h.ok.getD (x / 2)
  clear h Hc h2 h4
  generalize M.now.getD (x / 2) 0 = hd0 at *
  have hb : (((hd0 % 8 : Nat) : Int) == 0) = true := by rw [h3]; rfl
  clear h3
  go_enter Try.func38, Try.ntmps38
  go_wp2_with (first
    | (go_at_call 43; refine (unhide HC).mono ?_; rintro e w' ⟨rfl, rfl⟩; dsimp only [Option.getD, Option.isSome])
    | (go_at_call 39; refine (told_any hd0 _ hd).mono ?_; rintro e w' ⟨rfl, rfl⟩))
  go_ret
  exact ⟨retv (intv (by omega)), rfl⟩

theorem move_fin (M : HM) (g bn bo bb a b2 n m : Nat) (beg2 : List Bool) (w w1 w2 : World) (h : HRep w g bn bo bb M) (news : List Nat) (hnews : (M.now.drop a).take (1 + n) = news) (h5 : a < M.now.length)
    (h6 : a + 1 + n ≤ M.now.length) (h7 : M.oth.length + 1 + n ≤ M.size) (hm : m = a + 1 + n - a) (V : Value) (hV : V = .int .u64 ((M.oth.length * 8 : Nat) : Int))
    (n1 : g ≠ bn) (n2 : g ≠ bo) (n3 : g ≠ b2) (n4 : bn ≠ b2) (n5 : bo ≠ b2) (n6 : bn ≠ bo) (hbb : b2 ≠ bb)
    (hb2' : Blk w1 b2 4 ((beg2.set M.oth.length true).map bv).toArray) (hC1 : Chg (fun k => k = g ∨ k = bn ∨ k = bo ∨ k = b2) w w1)
    (hst : Blk w1 g 84 #[slv bn M.now.length M.size, slv bo M.oth.length M.size, .int .i64 (M.size : Int), slv bb M.size M.size])
    (hrn : Blk w1 bn 26 ((M.now ++ M.nsp).map wv).toArray) (hrb : Blk w1 bb 4 (M.beg.map bv).toArray)
    (hb2 : Blk w2 bo 26 ((((M.oth ++ M.osp).map wv).toArray.toList.take (M.oth.length * 1)) ++ news.map wv ++ ((M.oth ++ M.osp).map wv).toArray.toList.drop (M.oth.length * 1 + (news.map wv).length)).toArray) (hc2 : Chg (· = bo) w1 w2) :
    HRep ((w2.setCell ⟨g, 1, none⟩ (.slice (some ⟨bo, 0, none⟩) (M.oth.length + m) M.size)).setCell ⟨bn, a, none⟩ V) g bn bo bb (M.moved a n) ∧
      Blk ((w2.setCell ⟨g, 1, none⟩ (.slice (some ⟨bo, 0, none⟩) (M.oth.length + m) M.size)).setCell ⟨bn, a, none⟩ V) b2 4 ((beg2.map bv).set M.oth.length (bv true)).toArray ∧
      Chg (fun k => k = g ∨ k = bn ∨ k = bo ∨ k = b2) w ((w2.setCell ⟨g, 1, none⟩ (.slice (some ⟨bo, 0, none⟩) (M.oth.length + m) M.size)).setCell ⟨bn, a, none⟩ V) := by
  have n7 : g ≠ bb := h.st.ne_ h.rb (by decide)
  have n8 : bn ≠ bb := h.rn.ne_ h.rb (by decide)
  have n9 : bo ≠ bb := h.ro.ne_ h.rb (by decide)
  have hlen : news.length = 1 + n := by rw [← hnews]; simp; omega
  subst hm hV
  have hw : ∀ x ∈ news, x < 18446744073709551616 := fun x hx => by
    rw [← hnews] at hx
    exact h.ok.w1 x (List.mem_of_mem_drop (List.mem_of_mem_take hx))
  rw [row_app M.oth M.osp news _ rfl _ rfl] at hb2
  have es := ((hst.chg hc2 n2).set_ 1 (.slice (some ⟨bo, 0, none⟩) (M.oth.length + (a + 1 + n - a)) M.size)).far (p := ⟨bn, a, none⟩) n1 (.int .u64 ((M.oth.length * 8 : Nat) : Int))
  have en := ((hrn.chg hc2 n6).far (p := ⟨g, 1, none⟩) (Ne.symm n1) (.slice (some ⟨bo, 0, none⟩) (M.oth.length + (a + 1 + n - a)) M.size)).set_ a (.int .u64 ((M.oth.length * 8 : Nat) : Int))
  rw [wvs_set _ _ _ _ h5] at en
  have eo := (hb2.far (p := ⟨g, 1, none⟩) (Ne.symm n2) (.slice (some ⟨bo, 0, none⟩) (M.oth.length + (a + 1 + n - a)) M.size)).far (p := ⟨bn, a, none⟩) (Ne.symm n6) (.int .u64 ((M.oth.length * 8 : Nat) : Int))
  have eb := ((hrb.chg hc2 (Ne.symm n9)).far (p := ⟨g, 1, none⟩) (Ne.symm n7) (.slice (some ⟨bo, 0, none⟩) (M.oth.length + (a + 1 + n - a)) M.size)).far (p := ⟨bn, a, none⟩) (Ne.symm n8) (.int .u64 ((M.oth.length * 8 : Nat) : Int))
  have e2 := ((hb2'.chg hc2 (Ne.symm n5)).far (p := ⟨g, 1, none⟩) (Ne.symm n3) (.slice (some ⟨bo, 0, none⟩) (M.oth.length + (a + 1 + n - a)) M.size)).far (p := ⟨bn, a, none⟩) (Ne.symm n4) (.int .u64 ((M.oth.length * 8 : Nat) : Int))
  have hsz := h.ok.s
  rw [← List.map_set]
  refine ⟨⟨?_, ?_, ?_, eb, n6, ?_⟩, e2, ?_⟩
  · have q1 : (M.moved a n).now.length = M.now.length := by simp [HM.moved]
    have q2 : (M.moved a n).oth.length = M.oth.length + (a + 1 + n - a) := by simp [HM.moved]; omega
    rw [q1, q2]
    exact es
  · exact en
  · have q : (M.moved a n).oth ++ (M.moved a n).osp = (M.oth ++ news) ++ M.osp.drop news.length := by
      rw [hlen, ← hnews]; rfl
    rw [q]; exact eo
  · refine ⟨by simpa [HM.moved] using h.ok.n, ?_, h.ok.b, h.ok.s, ?_, ?_⟩
    · have := h.ok.o
      simp [HM.moved]; omega
    · intro x hx
      rcases List.mem_or_eq_of_mem_set hx with hx | rfl
      · exact h.ok.w1 x hx
      · omega
    · intro x hx
      rcases List.mem_append.1 hx with hx | hx
      · exact h.ok.w2 x hx
      · exact hw x (hnews ▸ hx)
  · exact ((hC1.trans hc2 (fun _ _ e => .inr (.inr (.inl e)))).setCell (p := ⟨g, 1, none⟩) (fun _ => .inl rfl) _).setCell (p := ⟨bn, a, none⟩) (fun _ => .inr (.inl rfl)) _

set_option maxHeartbeats 1000000 in
theorem move_new (M : HM) (g bn bo bb x a b2 : Nat) (beg2 : List Bool) (w : World) (h : HRep w g bn bo bb M) (hx : x < 18446744073709551616) (h2 : M.at x = some a) (h3 : M.now.getD a 0 % 8 ≠ 0)
    (n : Nat) (hn : n = M.now.getD a 0 / 8 % 8192) (h6 : a + 1 + n ≤ M.now.length) (h7 : M.oth.length + 1 + n ≤ M.size)
    (hb2 : Blk w b2 4 (beg2.map bv).toArray) (hl2 : beg2.length = M.size) (hbb : b2 ≠ bb) :
    Calls Try.prog 38 #[.pointer (some ⟨g, 0, none⟩), .int .u64 (x : Int), .slice (some ⟨b2, 0, none⟩) M.size M.size] w fun e w' =>
      e = .returned (.int .u64 ((M.oth.length * 2 : Nat) : Int)) ∧ HRep w' g bn bo bb (M.moved a n) ∧ Blk w' b2 4 ((beg2.set M.oth.length true).map bv).toArray ∧ Chg (fun k => k = g ∨ k = bn ∨ k = bo ∨ k = b2) w w' := by
  have Hc := at_any M g bn bo bb x w h hx
  rw [h2] at Hc
  have HC := hide Hc
  obtain ⟨ha2, h4, h5, _⟩ := HM.at_some h2
  rw [← ha2] at h5
  clear ha2 hx
  obtain ⟨i0, hi0, hz0, hz1, hz2⟩ := info_parts info26
  have c0 := h.c0
  have c1 := h.c1
  have hl := h.len
  have hs := h.ok.s
  have cn := h.cn h5
  have hd := h.ok.getD a
  have cb2 : w.cell? ⟨b2, M.oth.length, none⟩ = some (.bool (beg2.getD M.oth.length false)) := by
    refine hb2.cell' ?_
    simp [List.getElem?_eq_getElem (show M.oth.length < beg2.length by omega), bv]
  have fb2 := hb2.frozen M.oth.length
  have Hh := hide h
  have HB2 := hide hb2
  have n1 : g ≠ bn := h.st.ne_ h.rn (by decide)
  have n2 : g ≠ bo := h.st.ne_ h.ro (by decide)
  have n3 : g ≠ b2 := h.st.ne_ hb2 (by decide)
  have n4 : bn ≠ b2 := h.rn.ne_ hb2 (by decide)
  have n5 : bo ≠ b2 := h.ro.ne_ hb2 (by decide)
  have n6 := h.ne
  clear h Hc h2 h4 hb2 hz0 hz2
  generalize M.now.getD a 0 = hd0 at *
  have Ht := hide (fun W => told_any hd0 W hd)
  have hn8 : n < 8192 := by omega
  rw [← hn] at Ht
  have hb : (((hd0 % 8 : Nat) : Int) == 0) = false := by rw [beq_eq_false_iff_ne]; omega
  generalize hd0 % 8 = kd at *
  generalize hd0 / 65536 = tg at *
  have hsz7 : M.oth.length + (1 + n) ≤ M.size := by omega
  have h6' : (a : Int) + 1 + n ≤ M.size := by omega
  have e1 : IntKind.i64.wrap ((a : Int) + 1) = (a : Int) + 1 := IntWalk.i64_in _ (by omega)
  have e2 : IntKind.i64.wrap ((a : Int) + 1 + n) = (a : Int) + 1 + n := IntWalk.i64_in _ (by omega)
  have e3 : ((a : Int) + 1 + n).toNat = a + 1 + n := by omega
  have e4 : (a : Int) ≤ (a : Int) + 1 + n := by omega
  have e5 : (0 : Int) ≤ a := by omega
  have hne : ¬ M.size = a := by omega
  clear h3 hn
  go_enter Try.func38, Try.ntmps38
  go_wp2_with (first
    | (go_at_call 43; refine (unhide HC).mono ?_; rintro e w' ⟨rfl, rfl⟩; dsimp only [Option.getD, Option.isSome])
    | (go_at_call 39; refine (unhide Ht _).mono ?_; rintro e w' ⟨rfl, rfl⟩))
  have hb2' := (unhide HB2).set_ M.oth.length (.bool true)
  rw [begs_set] at hb2'
  have hC1 := (Chg.refl (fun k => k = g ∨ k = bn ∨ k = bo ∨ k = b2) w).setCell (p := ⟨b2, M.oth.length, none⟩) (fun _ => .inr (.inr (.inr rfl))) (.bool true)
  have hst := (unhide Hh).st.far (p := ⟨b2, M.oth.length, none⟩) n3 (.bool true)
  have hrn := (unhide Hh).rn.far (p := ⟨b2, M.oth.length, none⟩) n4 (.bool true)
  have hro := (unhide Hh).ro.far (p := ⟨b2, M.oth.length, none⟩) n5 (.bool true)
  have hrb := (unhide Hh).rb.far (p := ⟨b2, M.oth.length, none⟩) (Ne.symm hbb) (.bool true)
  generalize w.setCell { block := b2, off := M.oth.length } (.bool true) = w1 at *
  have c01 := hst.cell 0
  have c11 := hst.cell 1
  have f11 := hst.frozen 1
  simp only [List.getElem?_toArray, List.getElem?_cons_zero, List.getElem?_cons_succ, slv] at c01 c11
  clear c0 c1 cb2 fb2 cn
  have HB2' := hide hb2'
  have HC1 := hide hC1
  have HST := hide hst
  have HRN := hide hrn
  have HRO := hide hro
  have HRB := hide hrb
  clear hb2' hC1 hst hrn hro hrb HB2
  have hlen : ((M.now.drop a).take (1 + n)).length = 1 + n := by simp; omega
  have hsub : ∀ W, Blk W bn 26 ((M.now ++ M.nsp).map wv).toArray → Rd (· = bn) W (some ⟨bn, a, none⟩) (((M.now.drop a).take (1 + n)).map wv) := fun W hW => Rd.sub hW (fun j u hj => by
    rw [List.getElem?_map] at hj
    obtain ⟨y, hy, rfl⟩ := Option.map_eq_some_iff.1 hj
    rw [List.getElem?_take] at hy
    split at hy
    · rw [List.getElem?_drop] at hy
      rw [List.getElem?_toArray, List.getElem?_map, List.getElem?_append_left (by omega), hy]; rfl
    · cases hy)
  have HSUB := hide hsub
  have HLEN := hide hlen
  clear hsub hlen
  generalize hnews : (M.now.drop a).take (1 + n) = news at *
  have HNEWS := hide hnews
  clear hnews
  have HF1 := hide (show (news.map wv).length = (a + 1 + n - a) * 1 by have := unhide HLEN; simp; omega)
  have HF2 : M.oth.length + (a + 1 + n - a) ≤ M.size := by omega
  have HF3 : M.oth.length * 1 + (news.map wv).length ≤ ((M.oth ++ M.osp).map wv).toArray.size := by have := unhide HLEN; have := (unhide Hh).ok.o; simp; omega
  go_region_law ((refine step_append_blk _ (by rfl) (.tmp 76) (.tmp 86) 46 (by rfl) 26 i0 1 Try.underlying46 hi0 hz1 bo M.oth.length M.size _ (by rfl) (unhide HRO).drew (· = bn) _ (a + 1 + n - a) (M.size - a) (news.map wv) (by rfl) (unhide HSUB _ (unhide HRN).drew) (unhide HF1) (wv_one _) HF2 HF3 ?_; intro w2 hb2 hc2; have c02 := ((unhide HST).drew.chg hc2 n2).cell 0; have c12 := ((unhide HST).drew.chg hc2 n2).cell 1; have f12 := ((unhide HST).drew.chg hc2 n2).frozen 1; simp only [List.getElem?_toArray, List.getElem?_cons_zero, List.getElem?_cons_succ, slv] at c02 c12; have cn2 := ((unhide HRN).drew.chg hc2 n6).cell' (wv_get M.now M.nsp h5); have fn2 := ((unhide HRN).drew.chg hc2 n6).frozen a))
  all_goals go_wp2
  all_goals go_ret
  all_goals
    refine ⟨retv (intv (by omega)), ?_⟩
    refine move_fin M g bn bo bb a b2 n _ beg2 w w1 w2 (unhide Hh) news (unhide HNEWS) h5 h6 h7 rfl _ ?_ n1 n2 n3 n4 n5 n6 hbb (unhide HB2') (unhide HC1) (unhide HST) (unhide HRN) (unhide HRB) hb2 ⟨hc2.os, hc2.tape, hc2.output, hc2.size, hc2.block⟩
    exact intv (by omega)
end Go.Proofs.Ytlgkgglecgdkgaa
