/-
  Walks of the heap's New, Num, IsNum.
-/
import Derived.Test.YtlgkgglecgdkgaaWtext
import Derived.Deep.RegionHeld3
namespace Go.Proofs.Ytlgkgglecgdkgaa
open Go.RowKit
set_option maxHeartbeats 400000
set_option maxRecDepth 100000

theorem new_no (n : Int) (w : World) (h : n < 16 ∨ 1048576 < n) :
    Calls Try.prog 14 #[.int .i64 n] w fun e w' => e = .returned (.tuple #[.pointer none, .int .i64 200]) ∧ w = w' := by
  by_cases h1 : n < 16
  · clear h
    go_enter Try.func14, Try.ntmps14
    go_wp2
    go_ret2
    exact ⟨rfl, rfl⟩
  · have h2 : 1048576 < n := by omega
    clear h
    go_enter Try.func14, Try.ntmps14
    go_wp2
    go_ret2
    exact ⟨rfl, rfl⟩

theorem info4 : (Try.prog.info? 4).map (fun i => (i.zero, i.size, i.bytes)) = some (some (.bool false), 1, 1) := by kernel_rfl

/-- A heap that is new. -/
def HM.new (n : Nat) : HM := { now := [], nsp := List.replicate n 0, oth := [], osp := List.replicate n 0, size := n, beg := List.replicate n false }

theorem new_fin {n : Nat} {w w' : World} {g bn bo bb : Nat} {zs bs : Array Value} (E1 : zs = (((HM.new n).now ++ (HM.new n).nsp).map wv).toArray) (E2 : bs = ((HM.new n).beg.map bv).toArray) (h2 : n ≤ 1048576)
    (hst : Blk w' g 84 #[.slice (some ⟨bn, 0, none⟩) 0 n, .slice (some ⟨bo, 0, none⟩) 0 n, .int .i64 (n : Int), .slice (some ⟨bb, 0, none⟩) n n])
    (h3 : Blk w' bn 26 zs) (h4 : Blk w' bo 26 zs) (h5 : Blk w' bb 4 bs) (hc : Chg (fun _ => False) w w') (hn : bn ≠ bo) (l : w.heap.size ≤ g ∧ w.heap.size ≤ bn ∧ w.heap.size ≤ bo ∧ w.heap.size ≤ bb) :
    ∃ g' bn bo bb, Ending.returned (.tuple #[.pointer (some ⟨g, 0, none⟩), .int .i64 0]) = .returned (.tuple #[.pointer (some ⟨g', 0, none⟩), .int .i64 0]) ∧ HRep w' g' bn bo bb (HM.new n) ∧ Chg (fun _ => False) w w' ∧
      w.heap.size ≤ g' ∧ w.heap.size ≤ bn ∧ w.heap.size ≤ bo ∧ w.heap.size ≤ bb :=
  ⟨g, bn, bo, bb, rfl, ⟨hst, E1 ▸ h3, E1 ▸ h4, E2 ▸ h5, hn, ⟨by simp [HM.new], by simp [HM.new], by simp [HM.new], h2, by simp [HM.new], by simp [HM.new]⟩⟩, hc, l⟩

theorem new_yes (n : Nat) (w : World) (h1 : 16 ≤ n) (h2 : n ≤ 1048576) :
    Calls Try.prog 14 #[.int .i64 (n : Int)] w fun e w' => ∃ g bn bo bb, e = .returned (.tuple #[.pointer (some ⟨g, 0, none⟩), .int .i64 0]) ∧ HRep w' g bn bo bb (HM.new n) ∧ Chg (fun _ => False) w w' ∧
      w.heap.size ≤ g ∧ w.heap.size ≤ bn ∧ w.heap.size ≤ bo ∧ w.heap.size ≤ bb := by
  obtain ⟨i0, hi0, hz0, hz1, hz2⟩ := info_parts info26
  obtain ⟨i1, hi1, hy0, hy1, hy2⟩ := info_parts info4
  have hmk : ∀ W, (Instr.makeSlice 46 (.int .i64 0) (.int .i64 (n : Int))).run Try.prog W = .ok (.slice (some ⟨W.heap.size, 0, none⟩) 0 n) (W.alloc (.cells (madeCells #[.int .u64 0] n) 26)) := fun W => by
    have := run_make_rowN (P := Try.prog) 46 26 i0 _ Try.underlying46 hi0 hz0 .i64 .i64 0 n (by omega) (by rw [hz2]; omega) (by omega) W
    rwa [hz1, Nat.mul_one] at this
  have hmk2 : ∀ W, (Instr.makeSlice 82 (.int .i64 (n : Int)) (.int .i64 (n : Int))).run Try.prog W = .ok (.slice (some ⟨W.heap.size, 0, none⟩) n n) (W.alloc (.cells (madeCells #[.bool false] n) 4)) := fun W => by
    have := run_make_rowN (P := Try.prog) 82 4 i1 _ Try.underlying82 hi1 hy0 .i64 .i64 n n (Nat.le_refl _) (by rw [hy2]; omega) (by omega) W
    rwa [hy1, Nat.mul_one] at this
  clear hi0 hz0 hz1 hz2 hi1 hy0 hy1 hy2
  have e1 : madeCells #[.int .u64 0] n = (((HM.new n).now ++ (HM.new n).nsp).map wv).toArray := by rw [madeCells_one]; simp [HM.new, wv]
  have e2 : madeCells #[.bool false] n = ((HM.new n).beg.map bv).toArray := by rw [madeCells_one]; simp [HM.new, bv]
  generalize madeCells #[.int .u64 0] n = zs at *
  generalize madeCells #[.bool false] n = bs at *
  have E1 := hide e1
  have E2 := hide e2
  clear e1 e2
  go_enter Try.func14, Try.ntmps14
  go_wp2
  go_region
  all_goals go_wp2
  all_goals go_ret2
  all_goals
    refine new_fin (unhide E1) (unhide E2) h2 (Blk.drew (Blk.new_at _ _ _ _ (by simp))) ?_ ?_ ?_ (((((Chg.refl _ w).alloc _).alloc _).alloc _).alloc _).drew (by simp <;> omega) (by simp <;> omega)
    all_goals
      refine Blk.drew (Blk.alloc ?_ _)
      first
        | (refine Blk.new_at _ _ _ _ ?_; simp; done)
        | (refine Blk.alloc ?_ _; first | (refine Blk.new_at _ _ _ _ ?_; simp; done) | (refine Blk.alloc ?_ _; refine Blk.new_at _ _ _ _ ?_; simp; done))
end Go.Proofs.Ytlgkgglecgdkgaa
