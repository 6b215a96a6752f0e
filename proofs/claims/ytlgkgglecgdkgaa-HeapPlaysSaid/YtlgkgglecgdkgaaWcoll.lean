/-
  Walks of the heap's move as a whole, and of Collect.
-/
import Derived.Test.YtlgkgglecgdkgaaWmove
import Derived.Deep.CutRange
namespace Go.Proofs.Ytlgkgglecgdkgaa
open Go.RowKit
set_option maxHeartbeats 400000
set_option maxRecDepth 100000

theorem mv_any (M M' : HM) (b2 b2' : List Bool) (g bn bo bb x y d : Nat) (w : World) (h : HRep w g bn bo bb M) (hx : x < 18446744073709551616)
    (hb2 : Blk w d 4 (b2.map bv).toArray) (hl2 : b2.length = M.size) (hbb : d ≠ bb) (hm : M.mv b2 x = some (M', b2', y)) :
    Calls Try.prog 38 #[.pointer (some ⟨g, 0, none⟩), .int .u64 (x : Int), .slice (some ⟨d, 0, none⟩) M.size M.size] w fun e w' =>
      e = .returned (.int .u64 (y : Int)) ∧ HRep w' g bn bo bb M' ∧ Blk w' d 4 (b2'.map bv).toArray ∧ Chg (fun k => k = g ∨ k = bn ∨ k = bo ∨ k = d) w w' := by
  unfold HM.mv at hm
  split at hm
  · rename_i h1
    cases hm
    refine (move_num M g bn bo bb x _ _ _ w h hx h1).mono ?_
    rintro e w' ⟨rfl, rfl⟩
    exact ⟨rfl, h, hb2, Chg.refl _ _⟩
  · rename_i h1
    split at hm
    · rename_i h2
      cases hm
      refine (move_bad M g bn bo bb x _ _ _ w h hx (by omega) h2).mono ?_
      rintro e w' ⟨rfl, rfl⟩
      exact ⟨rfl, h, hb2, Chg.refl _ _⟩
    · rename_i a h2
      have ha := (HM.at_some h2).1
      split at hm
      · rename_i h3
        cases hm
        subst ha
        refine (move_fwd M g bn bo bb x _ _ _ w h hx h2 h3).mono ?_
        rintro e w' ⟨rfl, rfl⟩
        exact ⟨rfl, h, hb2, Chg.refl _ _⟩
      · rename_i h3
        split at hm
        · rename_i h4
          cases hm
          exact move_new M g bn bo bb x a d b2 w h hx h2 h3 _ rfl h4.1 h4.2 hb2 hl2 hbb
        · cases hm

theorem HM.mv_lt {M M' : HM} {b2 b2' : List Bool} {x y : Nat} (hk : M.Ok) (hx : x < 18446744073709551616) (h : M.mv b2 x = some (M', b2', y)) : y < 18446744073709551616 := by
  unfold HM.mv at h
  split at h
  · cases h; exact hx
  · split at h
    · cases h; omega
    · split at h
      · cases h
        have := hk.getD (by assumption)
        omega
      · split at h
        · cases h
          have := hk.s
          have := hk.o
          omega
        · cases h

theorem HRep.empty2 {w : World} {g bn bo bb : Nat} {M : HM} (h : HRep w g bn bo bb M) : HRep (w.setCell ⟨g, 1, none⟩ (.slice (some ⟨bo, 0, none⟩) 0 M.size)) g bn bo bb M.empty2 := by
  have n1 : g ≠ bn := h.st.ne_ h.rn (by decide)
  have n2 : g ≠ bo := h.st.ne_ h.ro (by decide)
  have n7 : g ≠ bb := h.st.ne_ h.rb (by decide)
  refine ⟨h.st.set_ 1 _, h.rn.far (Ne.symm n1) _, h.ro.far (Ne.symm n2) _, h.rb.far (Ne.symm n7) _, h.ne, ⟨h.ok.n, ?_, h.ok.b, h.ok.s, h.ok.w1, by simp [HM.empty2]⟩⟩
  simpa [HM.empty2] using h.ok.o

theorem out_set (done rest : List Nat) (x y j : Nat) (h : done.length = j) : (((done ++ x :: rest).map wv).toArray).setIfInBounds j (.int .u64 (y : Int)) = (((done ++ [y]) ++ rest).map wv).toArray := by
  subst h
  rw [List.setIfInBounds_toArray, List.map_append, List.set_append_right _ _ (by simp)]
  simp [wv]
theorem info26' : (Try.prog.info? 26).map (·.size) = some 1 := by kernel_rfl
theorem HRep.co {w : World} {g bn bo bb : Nat} {M : HM} (h : HRep w g bn bo bb M) {i : Nat} (hi : i < M.oth.length) : w.cell? ⟨bo, i, none⟩ = some (.int .u64 ((M.oth.getD i 0 : Nat) : Int)) :=
  h.ro.cell' (wv_get M.oth M.osp hi)
theorem HRep.setO {w : World} {g bn bo bb : Nat} {M : HM} (h : HRep w g bn bo bb M) {i y : Nat} (hi : i < M.oth.length) (hy : y < 18446744073709551616) :
    HRep (w.setCell ⟨bo, i, none⟩ (.int .u64 (y : Int))) g bn bo bb (M.setO i y) := by
  have n2 : g ≠ bo := h.st.ne_ h.ro (by decide)
  have n5 : bo ≠ bb := h.ro.ne_ h.rb (by decide)
  refine ⟨?_, h.rn.far h.ne _, ?_, h.rb.far (Ne.symm n5) _, h.ne, HM.setO_ok h.ok i y hy⟩
  · have := h.st.far (p := ⟨bo, i, none⟩) n2 (.int .u64 (y : Int))
    simpa [HM.setO] using this
  · have := h.ro.set_ i (.int .u64 (y : Int))
    rw [wvs_set _ _ _ _ hi] at this
    exact this
theorem HRep.swap {w w' : World} {g bn bo bb d : Nat} {M : HM} {b : List Bool} (h : HRep w g bn bo bb M) (hD : Blk w d 4 (b.map bv).toArray) (hl : b.length = M.size)
    (hst : Blk w' g 84 #[slv bo M.oth.length M.size, slv bn M.now.length M.size, .int .i64 (M.size : Int), slv d M.size M.size]) (hc : Chg (· = g) w w') : HRep w' g bo bn d (M.swap b) := by
  have n1 : g ≠ bn := h.st.ne_ h.rn (by decide)
  have n2 : g ≠ bo := h.st.ne_ h.ro (by decide)
  have n3 : g ≠ d := h.st.ne_ hD (by decide)
  exact ⟨hst, h.ro.chg hc (Ne.symm n2), h.rn.chg hc (Ne.symm n1), hD.chg hc (Ne.symm n3), Ne.symm h.ne, ⟨h.ok.o, h.ok.n, hl, h.ok.s, h.ok.w2, h.ok.w1⟩⟩
/-- How things stand at Collect's label. -/
def CollJ (W0 : World) (g bn bo bb d ob k N : Nat) (M2 : HM) (b2 : List Bool) (out : List Nat) (a : Act) (w : World) : Prop :=
  ∃ (M : HM) (b : List Bool) (p fuel : Nat), (a.defers = [] ∧ a.tmps.size = 121 ∧ a.tmps.getD 0 undef = .pointer (some ⟨g, 0, none⟩) ∧ a.tmps.getD 5 undef = .slice (some ⟨d, 0, none⟩) N N ∧
      a.tmps.getD 6 undef = .slice (some ⟨ob, 0, none⟩) k k ∧ a.tmps.getD 9 undef = .int .i64 (p : Int)) ∧
    HRep w g bn bo bb M ∧ Blk w d 4 (b.map bv).toArray ∧ b.length = M.size ∧ M.size = N ∧ Blk w ob 26 (out.map wv).toArray ∧ Chg (fun i => i = g ∨ i = bn ∨ i = bo) W0 w ∧ M.scan b p fuel = some (M2, b2)

theorem frame_map (t : Array Value) (n : Nat) (h : t.size = n) : t = ((List.range n).map fun i => t.getD i undef).toArray := by
  subst h
  apply Array.ext
  · simp
  · intro i h1 h2
    simp [h1]
theorem frame_lit (t : Array Value) (h : t.size = 121) : ∃ u : Nat → Value, (∀ i, u i = t.getD i undef) ∧ t = #[u 0, u 1, u 2, u 3, u 4, u 5, u 6, u 7, u 8, u 9, u 10, u 11, u 12, u 13, u 14, u 15, u 16, u 17, u 18, u 19, u 20, u 21, u 22, u 23, u 24, u 25, u 26, u 27, u 28, u 29, u 30, u 31, u 32, u 33, u 34, u 35, u 36, u 37, u 38, u 39, u 40, u 41, u 42, u 43, u 44, u 45, u 46, u 47, u 48, u 49, u 50, u 51, u 52, u 53, u 54, u 55, u 56, u 57, u 58, u 59, u 60, u 61, u 62, u 63, u 64, u 65, u 66, u 67, u 68, u 69, u 70, u 71, u 72, u 73, u 74, u 75, u 76, u 77, u 78, u 79, u 80, u 81, u 82, u 83, u 84, u 85, u 86, u 87, u 88, u 89, u 90, u 91, u 92, u 93, u 94, u 95, u 96, u 97, u 98, u 99, u 100, u 101, u 102, u 103, u 104, u 105, u 106, u 107, u 108, u 109, u 110, u 111, u 112, u 113, u 114, u 115, u 116, u 117, u 118, u 119, u 120] :=
  ⟨fun i => t.getD i undef, fun _ => rfl, frame_map t 121 h⟩

set_option maxHeartbeats 4000000 in
theorem collect_any (M M' : HM) (g bn bo bb c fuel : Nat) (A : Option Addr) (roots out : List Nat) (T : Nat → Prop) (w : World) (h : HRep w g bn bo bb M) (hpos : 0 < M.size)
    (hr : Rd T w A (roots.map wv)) (hx : ∀ x ∈ roots, x < 18446744073709551616) (hT : ∀ b, T b → b ≠ g ∧ b ≠ bn ∧ b ≠ bo ∧ b < w.heap.size) (hn : roots.length ≤ 1048576)
    (hcoll : M.collect roots fuel = some (M', out)) :
    Calls Try.prog 21 #[.pointer (some ⟨g, 0, none⟩), .slice A roots.length c] w fun e w' =>
      ∃ d ob, e = .returned (.slice (some ⟨ob, 0, none⟩) roots.length roots.length) ∧ HRep w' g bo bn d M' ∧ Blk w' ob 26 (out.map wv).toArray ∧
        w.heap.size ≤ d ∧ w.heap.size ≤ ob ∧ Chg (fun i => i = g ∨ i = bn ∨ i = bo) w w' := by
  unfold HM.collect at hcoll
  split at hcoll
  · cases hcoll
  rename_i M1 b1 out' hmvs
  split at hcoll
  · cases hcoll
  rename_i M2 b2 hscan
  cases hcoll
  obtain ⟨i0, hi0, hz0, hz1, hz2⟩ := info_parts info26
  obtain ⟨i1, hi1, hy0, hy1, hy2⟩ := info_parts info4
  have hs := h.ok.s
  have hmk : ∀ W, (Instr.makeSlice 46 (.int .i64 (roots.length : Int)) (.int .i64 (roots.length : Int))).run Try.prog W = .ok (.slice (some ⟨W.heap.size, 0, none⟩) roots.length roots.length) (W.alloc (.cells (madeCells #[.int .u64 0] roots.length) 26)) := fun W => by
    have := run_make_rowN (P := Try.prog) 46 26 i0 _ Try.underlying46 hi0 hz0 .i64 .i64 roots.length roots.length (Nat.le_refl _) (by rw [hz2]; omega) (by omega) W
    rwa [hz1, Nat.mul_one] at this
  have hmk2 : ∀ W, (Instr.makeSlice 82 (.int .i64 (M.size : Int)) (.int .i64 (M.size : Int))).run Try.prog W = .ok (.slice (some ⟨W.heap.size, 0, none⟩) M.size M.size) (W.alloc (.cells (madeCells #[.bool false] M.size) 4)) := fun W => by
    have := run_make_rowN (P := Try.prog) 82 4 i1 _ Try.underlying82 hi1 hy0 .i64 .i64 M.size M.size (Nat.le_refl _) (by rw [hy2]; omega) (by omega) W
    rwa [hy1, Nat.mul_one] at this
  clear hi0 hz0 hz1 hz2 hi1 hy0 hy1 hy2
  have Hmvs := hide hmvs
  have Hscan := hide hscan
  clear hmvs hscan
  have Hh := hide h
  have c1 := h.c1
  have c2 := h.c2
  have f1 := h.st.frozen 1
  have hne0 : ¬ M.size = 0 := by omega
  have HT := hide hT
  have HR := hide hr
  have HX := hide hx
  clear h hT hr hx
  go_enter Try.func21, Try.ntmps21
  go_wp2_with fail
  refine wp_scope_label 0 (CollJ w g bn bo bb w.heap.size (w.heap.size + 1) roots.length M.size M2 b2 out) (fun a _ => M.size - (intOf (a.tmps.getD 9 undef)).toNat) rfl ?pass ?first
  case pass =>
    clear c1 c2 f1 hmk hmk2 Hmvs Hscan
    have hlt : g < w.heap.size ∧ bn < w.heap.size ∧ bo < w.heap.size ∧ bb < w.heap.size := ⟨(unhide Hh).st.lt, (unhide Hh).rn.lt, (unhide Hh).ro.lt, (unhide Hh).rb.lt⟩
    rintro ⟨t, dfr⟩ wp ⟨Mi, b, p, fuel', ⟨hdf, hts, t0, t5, t6, t9⟩, hR, hD, hbl, hsj, hO, hC, hscan⟩
    dsimp only at hdf hts t0 t5 t6 t9
    subst hdf
    obtain ⟨u, hu, ht⟩ := frame_lit t hts
    have e0 := (hu 0).trans t0
    have e5 := (hu 5).trans t5
    have e6 := (hu 6).trans t6
    have e9 := (hu 9).trans t9
    clear hu t0 t5 t6 t9 hts
    subst ht
    rw [e0, e5, e6, e9]
    clear e0 e5 e6 e9
    have c0 := hR.c0
    have c1 := hR.c1
    have ho1 := hR.ok.o
    have hgb : w.heap.size < wp.heap.size := hD.lt
    by_cases hp : p < Mi.oth.length
    · obtain ⟨f, rfl⟩ : ∃ f, fuel' = f + 1 := by
        cases fuel' with
        | zero => simp [HM.scan, hp] at hscan
        | succ f => exact ⟨f, rfl⟩
      unfold HM.scan at hscan
      rw [if_pos hp] at hscan
      split at hscan
      · cases hscan
      rename_i Mn bn' hsc
      have hcp := hR.co hp
      have hd64 := getD_lt64 hR.ok.w2 p
      generalize Mi.oth.getD p 0 = hd0 at *
      have Ht := hide (fun W => told_any hd0 W hd64)
      have hn8 : hd0 / 8 % 8192 < 8192 := by omega
      have hlen := hR.len
      have holen : Mi.oth.length ≤ M.size := by omega
      generalize hd0 / 8 % 8192 = n8 at *
      generalize hd0 / 65536 = tg at *
      by_cases h4 : hd0 % 8 = 4
      · rw [if_pos h4] at hsc
        cases hsc
        rw [h4] at Ht
        have HS := hide hscan
        have HJ := hide (show _ ∧ _ ∧ _ ∧ _ ∧ _ ∧ _ from ⟨hR, hD, hbl, hsj, hO, hC⟩)
        rw [hsj] at c0 c1
        have hk4 : ((4 : Int) != 4) = false := by decide
        clear hscan hR hD hbl hsj hO hC h4 ho1 hlen
        go_wp2_with (go_at_call 39; refine (unhide Ht _).mono ?_; rintro e w' ⟨rfl, rfl⟩)
        go_loopw [13] (fun i wr => i = .int .i64 ((p : Int) + 1) ∧ wr = wp) (fun _ _ => 0)
        case atStart => exact ⟨rfl, rfl⟩
        case round =>
          obtain ⟨rfl, rfl⟩ := hrel
          go_wp2_with fail
          go_step3
          refine ⟨rfl, ?_, ?_⟩
          · obtain ⟨hR, hD, hbl, hsj, hO, hC⟩ := unhide HJ
            refine ⟨Mi, b, p + 1 + n8, f, ⟨rfl, rfl, rfl, rfl, rfl, ?_⟩, hR, hD, hbl, hsj, hO, hC, unhide HS⟩
            exact intv (by omega)
          · simp [intOf]; omega
      · rw [if_neg h4] at hsc
        have HS := hide hscan
        have hk4 : (((hd0 % 8 : Nat) : Int) != 4) = true := by rw [bne_iff_ne]; omega
        rw [hsj] at c0 c1
        have HSC := hide hsc
        have HJ := hide (show _ ∧ _ ∧ _ ∧ _ ∧ _ ∧ _ from ⟨hR, hD, hbl, hsj, hO, hC⟩)
        clear hscan hR hD hbl hsj hO hC h4 ho1 hlen hsc
        generalize hd0 % 8 = kd at *
        go_wp2_with (go_at_call 39; refine (unhide Ht _).mono ?_; rintro e w' ⟨rfl, rfl⟩)
        clear c0 c1 hcp Ht
        go_loopw [13] (fun i wr => ∃ (q : Nat) (Mj : HM) (bj : List Bool), i = .int .i64 ((p + 1 + q : Nat) : Int) ∧ q ≤ n8 ∧ Mj.scanI bj (p + 1 + q) (n8 - q) = some (Mn, bn') ∧ HRep wr g bn bo bb Mj ∧
            Blk wr w.heap.size 4 (bj.map bv).toArray ∧ bj.length = Mj.size ∧ Mj.size = M.size ∧ Blk wr (w.heap.size + 1) 26 (out.map wv).toArray ∧ Chg (fun i => i = g ∨ i = bn ∨ i = bo) w wr) (fun i _ => p + 1 + n8 - (intOf i).toNat)
        case atStart => exact ⟨0, Mi, b, intv (by omega), Nat.zero_le _, unhide HSC, (unhide HJ).1, (unhide HJ).2.1, (unhide HJ).2.2.1, (unhide HJ).2.2.2.1, (unhide HJ).2.2.2.2.1, (unhide HJ).2.2.2.2.2⟩
        case round =>
          obtain ⟨q, Mj, bj, rfl, hq, hsi, hR, hD, hbl, hsj, hO, hC⟩ := hrel
          by_cases hqn : q < n8
          · obtain ⟨r, hr⟩ : ∃ r, n8 - q = r + 1 := ⟨n8 - q - 1, by omega⟩
            rw [hr] at hsi
            unfold HM.scanI at hsi
            split at hsi
            · rename_i hio
              split at hsi
              · cases hsi
              rename_i M' b' y hmv
              have c1 := hR.c1
              rw [hsj] at c1
              have hcx := hR.co hio
              have hx := getD_lt64 hR.ok.w2 (p + 1 + q)
              generalize Mj.oth.getD (p + 1 + q) 0 = x at *
              have hoN : Mj.oth.length ≤ M.size := by have := hR.ok.o; omega
              have hcall := mv_any Mj M' bj b' g bn bo bb x y w.heap.size wr hR hx hD hbl (by omega) hmv
              rw [hsj] at hcall
              have HCALL := hide hcall
              have hms := HM.mv_size hmv
              have HLT := hide (HM.mv_lt hR.ok hx hmv)
              have HMS := hide hms
              have hio2 : p + 1 + q < M'.oth.length := by omega
              have hso2 : M'.size = M.size := by omega
              have HJ2 := hide (show _ ∧ _ ∧ _ ∧ _ from ⟨hbl, hsj, hO, hC⟩)
              have HSI := hide hsi
              have HSO := hide hso2
              have HR := hide hr
              clear hcall hms hbl hsj hO hC hsi hmv hR hD hso2 hr
              go_wp2_with (go_at_call 38; refine (unhide HCALL).mono ?_; rintro e w' ⟨rfl, hR', hD', hC'⟩; have c1' := hR'.c1; rw [unhide HSO] at c1'; have cx' := hR'.co hio2; have fx' := hR'.ro.frozen (p + 1 + q); have hoN' : M'.oth.length ≤ M.size := (by have := hR'.ok.o; have := unhide HSO; omega); have HR' := hide hR'; have HD' := hide hD'; have HC' := hide hC'; clear hR' hD' hC')
              go_roundw
              case rel =>
                obtain ⟨hbl, hsj, hO, hC⟩ := unhide HJ2
                have hms := unhide HMS
                have hr := unhide HR
                refine ⟨q + 1, M'.setO (p + 1 + q) y, b', intv (by omega), by omega, ?_, (unhide HR').setO hio2 (unhide HLT), ?_, ?_, unhide HSO, ?_, ?_⟩
                · rw [show n8 - (q + 1) = r by omega]; exact unhide HSI
                · exact (unhide HD').far (show w.heap.size ≠ bo by omega) _
                · show b'.length = M'.size
                  omega
                · exact (hO.chg (unhide HC') (by omega)).far (show w.heap.size + 1 ≠ bo by omega) _
                · exact (hC.trans (unhide HC') (fun i hi e => by omega)).setCell (p := ⟨bo, p + 1 + q, none⟩) (fun _ => .inr (.inr rfl)) _
              case measure => simp [intOf]; omega
            · cases hsi
          · obtain rfl : q = n8 := by omega
            rw [Nat.sub_self] at hsi
            simp only [HM.scanI, Option.some.injEq, Prod.mk.injEq] at hsi
            obtain ⟨rfl, rfl⟩ := hsi
            have HJ2 := hide (show _ ∧ _ ∧ _ ∧ _ ∧ _ ∧ _ from ⟨hR, hD, hbl, hsj, hO, hC⟩)
            clear hR hD hbl hsj hO hC hq hqn
            go_wp2_with fail
            go_step3
            refine ⟨rfl, ?_, ?_⟩
            · obtain ⟨hR, hD, hbl, hsj, hO, hC⟩ := unhide HJ2
              refine ⟨Mj, bj, p + 1 + q, f, ⟨rfl, rfl, rfl, rfl, rfl, ?_⟩, hR, hD, hbl, hsj, hO, hC, unhide HS⟩
              exact intv (by omega)
            · simp [intOf]; omega
    · have hend : Mi = M2 ∧ b = b2 := by
        cases fuel' with
        | zero => unfold HM.scan at hscan; rw [if_neg hp] at hscan; cases hscan; exact ⟨rfl, rfl⟩
        | succ f => unfold HM.scan at hscan; rw [if_neg hp] at hscan; cases hscan; exact ⟨rfl, rfl⟩
      obtain ⟨rfl, rfl⟩ := hend
      rw [hsj] at c0 c1
      have c3 := hR.c3
      have f0 := hR.st.frozen 0
      have f1 := hR.st.frozen 1
      have f3 := hR.st.frozen 3
      rw [hsj] at c3
      have HJ := hide (show _ ∧ _ ∧ _ ∧ _ ∧ _ ∧ _ from ⟨hR, hD, hbl, hsj, hO, hC⟩)
      clear hR hD hbl hsj hO hC hscan
      go_wp2_with fail
      go_region
      go_wp2
      simp only [Exit.jump]
      go_ret
      obtain ⟨hR, hD, hbl, hsj, hO, hC⟩ := unhide HJ
      have q1 := ((hR.st.set_ 0 (.slice (some ⟨bo, 0, none⟩) Mi.oth.length M.size)).set_ 1 (.slice (some ⟨bn, 0, none⟩) Mi.now.length M.size)).set_ 3 (.slice (some ⟨w.heap.size, 0, none⟩) M.size M.size)
      have hc : Chg (· = g) wp (((wp.setCell ⟨g, 0, none⟩ (.slice (some ⟨bo, 0, none⟩) Mi.oth.length M.size)).setCell ⟨g, 1, none⟩ (.slice (some ⟨bn, 0, none⟩) Mi.now.length M.size)).setCell ⟨g, 3, none⟩ (.slice (some ⟨w.heap.size, 0, none⟩) M.size M.size)) :=
        (((Chg.refl (· = g) wp).setCell (p := ⟨g, 0, none⟩) (fun _ => rfl) _).setCell (p := ⟨g, 1, none⟩) (fun _ => rfl) _).setCell (p := ⟨g, 3, none⟩) (fun _ => rfl) _
      refine ⟨w.heap.size, w.heap.size + 1, rfl, hR.swap hD hbl ?_ hc.drew, (hO.chg hc (by omega)).drew, Nat.le_refl _, by omega, (hC.trans hc (fun i _ e => .inl e)).drew⟩
      rw [hsj]
      have q2 := q1.drew
      rw [← hsj] at q2 ⊢
      exact q2
  case first =>
    intro hpass
    have Hpass := hide hpass
    clear hpass
    go_upto_region 4 with (fail)
    have hE := (unhide Hh).empty2
    have hC1 := (Chg.refl (fun i => i = g ∨ i = bn ∨ i = bo) w).setCell (p := ⟨g, 1, none⟩) (fun _ => .inl rfl) (.slice (some ⟨bo, 0, none⟩) 0 M.size)
    have hz1 : w.heap.size = (w.setCell ⟨g, 1, none⟩ (.slice (some ⟨bo, 0, none⟩) 0 M.size)).heap.size := by simp [World.setCell]
    generalize w.setCell ⟨g, 1, none⟩ (.slice (some ⟨bo, 0, none⟩) 0 M.size) = w1 at *
    have hBd := (Blk.new_at w1 w.heap.size 4 (madeCells #[.bool false] M.size) hz1).alloc (.cells (madeCells #[.int .u64 0] roots.length) 26)
    have hBo := Blk.new_at (w1.alloc (.cells (madeCells #[.bool false] M.size) 4)) (w.heap.size + 1) 26 (madeCells #[.int .u64 0] roots.length) (by simp [hz1])
    have hE3 := hE.chg (S := fun _ => False) (((Chg.refl _ w1).alloc (.cells (madeCells #[.bool false] M.size) 4)).alloc (.cells (madeCells #[.int .u64 0] roots.length) 26)) id id id id
    have hC3 := (hC1.alloc (.cells (madeCells #[.bool false] M.size) 4)).alloc (.cells (madeCells #[.int .u64 0] roots.length) 26)
    generalize (w1.alloc (.cells (madeCells #[.bool false] M.size) 4)).alloc (.cells (madeCells #[.int .u64 0] roots.length) 26) = w3 at *
    have hRd := (unhide HR).chg hC3 (fun b hb _ => by have := unhide HT b hb; omega)
    have hT2 : ∀ b, T b → b ≠ w.heap.size + 1 := fun b hb => by have := unhide HT b hb; omega
    have hlt : g < w.heap.size ∧ bn < w.heap.size ∧ bo < w.heap.size ∧ bb < w.heap.size := ⟨(unhide Hh).st.lt, (unhide Hh).rn.lt, (unhide Hh).ro.lt, (unhide Hh).rb.lt⟩
    have hob : w.heap.size < w.heap.size + 1 := by omega
    generalize w.heap.size + 1 = ob at *
    have hsz : (madeCells #[Value.int .u64 0] roots.length).size = roots.length := by simp [size_madeCells]
    have HE3 := hide hE3
    have HC3 := hide hC3
    have HBd := hide hBd
    have HBo := hide hBo
    have HRd := hide hRd
    clear hE hE3 hC1 hC3 hz1 hBd hBo hRd c1 c2 f1 hmk hmk2 HR HT
    generalize hdd : w.heap.size = d at *
    have HDD := hide hdd
    clear hdd
    go_wp2_with (with_reducible refine wpList_copy_blk rfl (.tmp 31) (.tmp 32) 46 rfl 26 Try.underlying46 info26' ob roots.length roots.length T A c _ (roots.map wv) rfl rfl (unhide HBo) hsz (unhide HRd) (by simp) (wv_one _) ?_; intro w4 hb4 hc4)
    have hBd4 := (unhide HBd).chg hc4 (by omega)
    rw [madeCells_one, show List.replicate M.size (Value.bool false) = (List.replicate M.size false).map bv by simp [bv]] at hBd4
    have hE4 := (unhide HE3).chg hc4 (by omega) (by omega) (by omega) (by omega)
    have hC4 := (unhide HC3).trans (S' := (· = ob)) hc4 (fun i hi e => by have := unhide HDD; omega)
    clear HBd HE3 HC3 HBo HRd hc4
    have h64 : ∀ j : Nat, roots.getD j 0 < 18446744073709551616 := getD_lt64 (unhide HX)
    have H64 := hide h64
    clear h64
    go_loopw [36] (fun i wr => ∃ (j : Nat) (Mj : HM) (bj : List Bool) (done rest : List Nat), i = .int .i64 j ∧ j ≤ roots.length ∧ done.length = j ∧ out = done ++ rest ∧
        Mj.mvs bj (roots.drop j) = some (M1, b1, rest) ∧ HRep wr g bn bo bb Mj ∧ Blk wr d 4 (bj.map bv).toArray ∧ bj.length = M.size ∧ Mj.size = M.size ∧
        Blk wr ob 26 ((done ++ roots.drop j).map wv).toArray ∧ Chg (fun i => i = g ∨ i = bn ∨ i = bo) w wr) (fun i _ => roots.length - (intOf i).toNat)
    case atStart => exact ⟨0, M.empty2, List.replicate M.size false, [], out, rfl, Nat.zero_le _, rfl, rfl, unhide Hmvs, hE4, hBd4, by simp, rfl, hb4, hC4⟩
    case round =>
      obtain ⟨j, Mj, bj, done, rest, rfl, hj, hdl, hout, hmj, hR, hD, hbl, hsj, hO, hC⟩ := hrel
      by_cases hlt2 : j < roots.length
      · have hdrop : roots.drop j = roots.getD j 0 :: roots.drop (j + 1) := by
          rw [List.drop_eq_getElem_cons hlt2, List.getD_eq_getElem?_getD, List.getElem?_eq_getElem hlt2]; rfl
        rw [hdrop] at hmj hO
        have hx := unhide H64 j
        generalize roots.getD j 0 = x at *
        unfold HM.mvs at hmj
        split at hmj
        · cases hmj
        rename_i M' b' y hmv
        split at hmj
        · cases hmj
        rename_i Mx bx ys hmj2
        cases hmj
        have hcx : wr.cell? ⟨ob, j, none⟩ = some (.int .u64 (x : Int)) := hO.cell' (by
          rw [List.getElem?_toArray, List.getElem?_map, List.getElem?_append_right (by omega), hdl, Nat.sub_self]; rfl)
        have hcall := mv_any Mj M' bj b' g bn bo bb x y d wr hR hx hD (by omega) (by omega) hmv
        rw [hsj] at hcall
        have HCALL := hide hcall
        have HMV := hide (HM.mv_size hmv)
        have HLT := hide (HM.mv_lt hR.ok hx hmv)
        have HO := hide hO
        have HC := hide hC
        have HM2 := hide hmj2
        have HOUT := hide hout
        have HDL := hide hdl
        have HSJ := hide hsj
        have HBL := hide hbl
        clear hcall hO hC hmj2 hout hdl hsj hbl hmv hD hR hdrop
        go_wp2_with (go_at_call 38; refine (unhide HCALL).mono ?_; rintro e w' ⟨rfl, hR', hD', hC'⟩; have hO' := (unhide HO).chg hC' (by omega); have co' := hO'.cell' (i := j) (v := .int .u64 (x : Int)) (by
            rw [List.getElem?_toArray, List.getElem?_map, List.getElem?_append_right (by have := unhide HDL; omega), unhide HDL, Nat.sub_self]; rfl); have fo' := hO'.frozen j; have HR' := hide hR'; have HD' := hide hD'; have HC' := hide hC'; have HO' := hide hO'; clear hR' hD' hC' hO')
        go_roundw
        case rel =>
          have hs2 := unhide HMV
          have hb2 := unhide HBL
          have hs3 := unhide HSJ
          have hset := (Chg.refl (fun i => i = ob) w').setCell (p := ⟨ob, j, none⟩) (fun _ => rfl) (.int .u64 (y : Int))
          have ho := (unhide HO').set_ j (.int .u64 (y : Int))
          rw [out_set _ _ _ _ _ (unhide HDL)] at ho
          refine ⟨j + 1, M', b', done ++ [y], ys, by go_num, by omega, by simp [unhide HDL], by rw [unhide HOUT]; simp, unhide HM2, (unhide HR').chg hset (by omega) (by omega) (by omega) (by omega),
            (unhide HD').chg hset (by omega), by omega, by omega, ho, ?_⟩
          exact ((unhide HC).trans (unhide HC') (fun i hi e => by have := unhide HDD; omega)).trans (S' := (· = ob)) hset (fun i hi e => by have := unhide HDD; omega)
        case measure => simp [intOf]; omega
      · obtain rfl : j = roots.length := by omega
        rw [List.drop_length] at hmj
        simp only [HM.mvs, Option.some.injEq, Prod.mk.injEq] at hmj
        obtain ⟨rfl, rfl, rfl⟩ := hmj
        rw [List.drop_length, List.append_nil] at hO
        rw [List.append_nil] at hout
        subst hout
        have HJ := hide (show _ ∧ _ ∧ _ ∧ _ ∧ _ ∧ _ from ⟨hR, hD, hbl, hsj, hO, hC⟩)
        clear hR hD hbl hsj hO hC hdl
        go_wp2_with fail
        go_step3
        go_step
        go_step
        refine (unhide Hpass) _ _ ?_
        obtain ⟨hR, hD, hbl, hsj, hO, hC⟩ := unhide HJ
        exact ⟨Mj, bj, 0, fuel, ⟨rfl, rfl, rfl, rfl, rfl, rfl⟩, hR, hD, by rw [hbl, hsj], hsj, hO, hC, unhide Hscan⟩
end Go.Proofs.Ytlgkgglecgdkgaa
