/-
  Layer 17: the law TextLabels: the region that puts another label into a line; lines joined.
-/
import Derived.Test.YtgonllogaiiicaaDoorWy
namespace Go.Proofs.YtgonllogaiiicaaDoor
open Go.RowKit
set_option maxHeartbeats 4000000
set_option maxRecDepth 100000
noncomputable def r7_14C : Code := (Tryd.f7.body.bind (findReg 14)).getD .skip
theorem r7_14 (x0 x3 x4 x5 x6 x7 x8 x9 x10 x11 x12 x13 x16 x17 x18 x19 x20 x21 x22 x23 x24 x25 x26 x27 x28 x29 x30 x31 x32 x33 x34 x35 x36 x37 x38 x39 x40 x41 x42 x43 x44 x45 x46 x47 x48 x49 x50 x51 x52 x53 x54 x55 x56 x57 x58 x59 x60 x61 x62 x63 x64 x65 x66 x67 x68 x69 x70 x71 x72 x73 x74 x75 x76 x77 x78 x79 x80 x81 x82 x83 x84 x85 x86 x87 x88 x89 x90 x91 x92 x93 x94 x95 x96 x97 x98 x99 x100 x101 x102 x103 x104 x105 x106 x107 x108 x109 x110 x111 x112 x113 x114 x115 x116 x117 x118 x119 x120 x121 x122 : Value) (w : World) (g p : Nat) (X L V : ByteArray)
    (h3 : p + L.size ≤ X.size) (h4 : (p : Int) + (L.size : Int) ≤ (X.size : Int)) (h5 : (p : Int) ≤ (X.size : Int)) (h6 : (p : Int) + (L.size : Int) ≤ 1000000000) (c0 : w.cell? ⟨g, 2, none⟩ = some (.int .i64 (p : Int))) (h7 : X.size ≤ 1000000000) (h8 : V.size ≤ 1000000000)
    (Q : Exit → Act → World → Prop) (hexit : ∀ (y84 y85 y86 y87 y88 y89 y90 y91 y92 y93 y94 y95 y96 y97 : Value), Q .normal ⟨#[x0, .string L, .string V, x3, x4, x5, x6, x7, x8, x9, x10, x11, x12, x13, .pointer (some ⟨g, 0, none⟩), .string (X.extract 0 p ++ V ++ X.extract (p + L.size) X.size), x16, x17, x18, x19, x20, x21, x22, x23, x24, x25, x26, x27, x28, x29, x30, x31, x32, x33, x34, x35, x36, x37, x38, x39, x40, x41, x42, x43, x44, x45, x46, x47, x48, x49, x50, x51, x52, x53, x54, x55, x56, x57, x58, x59, x60, x61, x62, x63, x64, x65, x66, x67, x68, x69, x70, x71, x72, x73, x74, x75, x76, x77, x78, x79, x80, x81, x82, x83, y84, y85, y86, y87, y88, y89, y90, y91, y92, y93, y94, y95, y96, y97, x98, x99, x100, x101, x102, x103, x104, x105, x106, x107, x108, x109, x110, x111, x112, x113, x114, x115, x116, x117, x118, x119, x120, x121, x122], []⟩ (w.drew)) :
    Code.wp Tryd.prog r7_14C Q ⟨#[x0, .string L, .string V, x3, x4, x5, x6, x7, x8, x9, x10, x11, x12, x13, .pointer (some ⟨g, 0, none⟩), .string X, x16, x17, x18, x19, x20, x21, x22, x23, x24, x25, x26, x27, x28, x29, x30, x31, x32, x33, x34, x35, x36, x37, x38, x39, x40, x41, x42, x43, x44, x45, x46, x47, x48, x49, x50, x51, x52, x53, x54, x55, x56, x57, x58, x59, x60, x61, x62, x63, x64, x65, x66, x67, x68, x69, x70, x71, x72, x73, x74, x75, x76, x77, x78, x79, x80, x81, x82, x83, x84, x85, x86, x87, x88, x89, x90, x91, x92, x93, x94, x95, x96, x97, x98, x99, x100, x101, x102, x103, x104, x105, x106, x107, x108, x109, x110, x111, x112, x113, x114, x115, x116, x117, x118, x119, x120, x121, x122], []⟩ w := by
  have HX := hide hexit
  clear hexit
  have e1 : (X.extract 0 p).size = p := by rw [ByteArray.size_extract]; omega
  have e2 : (X.extract (p + L.size) X.size).size = X.size - (p + L.size) := by rw [ByteArray.size_extract]; omega
  have r1 := fun wx : World => run_string_add_sum (P := Tryd.prog) wx (X.extract 0 p) V (by rw [e1]; omega)
  have r2 := fun wx : World => run_string_add_sum (P := Tryd.prog) wx (X.extract 0 p ++ V) (X.extract (p + L.size) X.size) (by rw [ByteArray.size_append, e1, e2]; omega)
  clear e1 e2
  have w1 : IntKind.i64.wrap ((p : Int) + (L.size : Int)) = (p : Int) + (L.size : Int) := IntWalk.i64_in _ (by omega)
  have w2 : ((p : Int) + (L.size : Int)).toNat = p + L.size := by omega
  have w3 : (0 : Int) ≤ (p : Int) + (L.size : Int) := by omega
  conv => arg 2; whnf
  refine wp_region_noPanic ?_
  go_region
  all_goals
    refine NoPanic.normal ?_
    exact unhide HX _ _ _ _ _ _ _ _ _ _ _ _ _ _
theorem joinL_cons (x : Bs) {r : List Bs} (h : r ≠ []) : joinL (x :: r) = x ++ 10 :: joinL r := by
  cases r with
  | nil => exact absurd rfl h
  | cons y r => rw [joinL]; intro e; cases e
theorem joinL_snoc (y : Bs) : ∀ xs : List Bs, xs ≠ [] → joinL (xs ++ [y]) = joinL xs ++ 10 :: y
  | [], h => absurd rfl h
  | [x], _ => rfl
  | x :: z :: r, _ => by
    have ih := joinL_snoc y (z :: r) (by simp)
    rw [List.cons_append, joinL_cons x (by simp), ih, joinL_cons x (by simp)]
    simp
end Go.Proofs.YtgonllogaiiicaaDoor
