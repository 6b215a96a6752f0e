/-
  The walks of the document's Put.
-/
import Derived.Test.YtlgkgglecgdkgaaPlayS
import Derived.Deep.CutRange
namespace Go.Proofs.Ytlgkgglecgdkgaa
open Go.RowKit
set_option maxHeartbeats 400000
set_option maxRecDepth 100000

/-- The four blocks of Put's own. -/
structure PutMem (w : World) (b : Nat) (x y : Array Value) : Prop where
  m0 : Blk w b 45 x
  m1 : Blk w (b + 1) 35 y
  m2 : Blk w (b + 1 + 1) 45 #[.int .i64 0, .int .i64 0, .slice none 0 0]
  m3 : Blk w (b + 1 + 1 + 1) 51 #[.bool false, .int .i64 0]
theorem PutMem.new (w : World) (x y : Array Value) : PutMem ((((w.alloc (.cells x 45)).alloc (.cells y 35)).alloc (.cells #[.int .i64 0, .int .i64 0, .slice none 0 0] 45)).alloc (.cells #[.bool false, .int .i64 0] 51)) w.heap.size x y := by
  refine ⟨(((Blk.new w 45 x).alloc _).alloc _).alloc _, ((Blk.new_at (w.alloc (.cells x 45)) _ 35 y (by simp)).alloc _).alloc _, (Blk.new_at ((w.alloc (.cells x 45)).alloc (.cells y 35)) _ 45 _ (by simp)).alloc _, Blk.new_at (((w.alloc (.cells x 45)).alloc (.cells y 35)).alloc (.cells #[.int .i64 0, .int .i64 0, .slice none 0 0] 45)) _ 51 _ (by simp)⟩
theorem PutMem.chg {w w' : World} {b : Nat} {x y : Array Value} {S : Nat → Prop} (h : PutMem w b x y) (hc : Chg S w w') (hS : ∀ k, b ≤ k → k ≤ b + 3 → ¬ S k) : PutMem w' b x y :=
  ⟨h.m0.chg hc (hS _ (by omega) (by omega)), h.m1.chg hc (hS _ (by omega) (by omega)), h.m2.chg hc (hS _ (by omega) (by omega)), h.m3.chg hc (hS _ (by omega) (by omega))⟩

theorem put_none (o : ObjM) (words used : Nat) (n c cp : Nat) (A Ap : Option Addr) (w : World) (h1 : o.text.size ≤ 1048576) (h2 : o.parts.length ≤ 1048576) (hw : words ≤ 1048576) (hu : used ≤ words) (hroom : words < used + needO o) :
    Calls Try.prog 17 #[.agg #[.int .i64 (words : Int), .int .i64 (used : Int), .slice A n c], .agg #[.int .i64 o.kind, .int .i64 o.tag, .string o.text, .slice Ap o.parts.length cp]] w fun e w' =>
      e = .returned (.tuple #[.agg #[.int .i64 (words : Int), .int .i64 (used : Int), .slice A n c], .agg #[.bool true, .int .i64 0], .bool false]) ∧ Chg (fun _ => False) w w' := by
  have hN := fun W => need_o o Ap cp W h1 h2
  have hlt : (words : Int) - (used : Int) < (needO o : Int) := by omega
  have hlt2 : decide ((words : Int) - (used : Int) < (needO o : Int)) = true := decide_eq_true hlt
  have hnb : needO o ≤ 2000000 := by unfold needO; split <;> omega
  generalize needO o = N at *
  obtain ⟨ok, ot, ox, ps⟩ := o
  dsimp only at hN
  have HN := hide hN
  have HM := hide (refNum_any 0)
  rw [show backV (u64n 0) = 0 from rfl] at HM
  clear hN
  have HP := hide (PutMem.new w #[.int .i64 words, .int .i64 used, .slice A n c] #[.int .i64 ok, .int .i64 ot, .string ox, .slice Ap ps.length cp])
  have HC0 := hide ((((((Chg.refl (fun _ => False) w).alloc (.cells #[.int .i64 words, .int .i64 used, .slice A n c] 45)).alloc (.cells #[.int .i64 ok, .int .i64 ot, .string ox, .slice Ap ps.length cp] 35)).alloc (.cells #[.int .i64 0, .int .i64 0, .slice none 0 0] 45)).alloc (.cells #[.bool false, .int .i64 0] 51)))
  go_enter Try.func17, Try.ntmps17
  go_wp2_with (go_at_call 12; refine (unhide HN _).mono ?_; rintro e w2 ⟨rfl, hc2⟩
               have hP := (unhide HP).chg hc2 (fun _ _ _ => id)
               have HC2 := hide ((unhide HC0).trans' hc2)
               clear hc2
               obtain ⟨m0, m1, m2, m3⟩ := hP
               have c00 := m0.cell 0
               have c01 := m0.cell 1
               have c02 := m0.cell 2
               have c20 := m2.cell 0
               have c21 := m2.cell 1
               have c22 := m2.cell 2
               have c30 := m3.cell 0
               have c31 := m3.cell 1
               have f20 := m2.frozen 0
               have f21 := m2.frozen 1
               have f22 := m2.frozen 2
               have f30 := m3.frozen 0
               have f31 := m3.frozen 1
               simp only [List.getElem?_toArray, List.getElem?_cons_zero, List.getElem?_cons_succ] at c00 c01 c02 c20 c21 c22 c30 c31
               have HM2 := hide m2
               have HM3 := hide m3
               have HM0 := hide m0
               clear m0 m1 m2 m3)
  go_region_law (first
    | (go_simp; go_at_call 34; refine (unhide HM _).mono ?_; rintro e w3 ⟨rfl, hc3⟩
       have m0 := Blk.chg (show Blk w2.drew _ _ _ from unhide HM0) hc3 id
       have m2 := Blk.chg (show Blk w2.drew _ _ _ from unhide HM2) hc3 id
       have m3 := Blk.chg (show Blk w2.drew _ _ _ from unhide HM3) hc3 id
       have d00 := m0.cell 0
       have d01 := m0.cell 1
       have d02 := m0.cell 2
       have d20 := m2.cell 0
       have d21 := m2.cell 1
       have d22 := m2.cell 2
       have d30 := m3.cell 0
       have d31 := m3.cell 1
       have g20 := m2.frozen 0
       have g21 := m2.frozen 1
       have g22 := m2.frozen 2
       have g30 := m3.frozen 0
       have g31 := m3.frozen 1
       simp only [List.getElem?_toArray, List.getElem?_cons_zero, List.getElem?_cons_succ] at d00 d01 d02 d20 d21 d22 d30 d31
       have HC3 := hide ((unhide HC2).drew.trans' hc3)
       clear m0 m2 m3 hc3))
  all_goals
    go_wp2_with fail
    refine bodyPost_ret (v := .tuple #[.agg #[.int .i64 (words : Int), .int .i64 (used : Int), .slice A n c], .agg #[.bool true, .int .i64 0], .bool false]) (by simp [results, Try.results17, go_sem, d20, d21, d22, d30, d31]) rfl ⟨rfl, ?_⟩
    repeat (first | exact unhide HC3 | refine Chg.setCell ?_ (fun h => by dsimp only at h; omega) _)
end Go.Proofs.Ytlgkgglecgdkgaa
