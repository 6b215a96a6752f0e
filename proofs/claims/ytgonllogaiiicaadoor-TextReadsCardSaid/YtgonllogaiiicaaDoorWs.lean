/-
  Layer 17: text.Rename: the region that stores a line with another label.
-/
import Derived.Test.YtgonllogaiiicaaDoorWr
import Derived.Test.YtgonllogaiiicaaDoorRrd
namespace Go.Proofs.YtgonllogaiiicaaDoor
open Go.RowKit
set_option maxHeartbeats 4000000
set_option maxRecDepth 100000
noncomputable def r22_13C : Code := (Tryd.f22.body.bind (findReg 13)).getD .skip
theorem r22_13 (x0 x1 x2 x3 x4 x8 x10 x12 x14 x15 x16 x17 x18 x19 x20 x21 x22 x23 x24 x25 x26 x27 x28 x29 x30 x31 x32 x33 x34 x35 x36 x37 x38 x39 x40 x41 x42 x43 x44 x45 x46 x47 x48 x49 x50 x51 x52 x53 x54 x55 x56 x57 x58 x59 x60 x61 x62 x63 x64 x65 x66 x67 x68 x69 x70 x71 x72 x73 x74 x75 x76 x77 x78 x79 x80 x81 x82 x83 : Value) (w : World) (b n i p : Nat) (X L V : ByteArray)
    (_h1 : i < n) (h2 : (i : Int) < (n : Int)) (h3 : p + L.size ≤ X.size) (h4 : (p : Int) + (L.size : Int) ≤ (X.size : Int)) (h5 : (p : Int) ≤ (X.size : Int)) (h6 : (p : Int) + (L.size : Int) ≤ 1000000000) (c0 : w.cell? ⟨b, i, none⟩ = some (.string X)) (f0 : w.frozen? ⟨b, i, none⟩ = false)
    (h7 : X.size ≤ 1000000000) (h8 : V.size ≤ 1000000000)
    (Q : Exit → Act → World → Prop) (hexit : ∀ (y66 y67 y68 y69 y70 y71 y72 y73 y74 y75 y76 y77 y78 y79 y80 : Value), Q .normal ⟨#[x0, x1, x2, x3, x4, .slice (some ⟨b, 0, none⟩) n n, .int .i64 (i : Int), .string X, x8, .string L, x10, .string V, x12, .int .i64 (p : Int), x14, x15, x16, x17, x18, x19, x20, x21, x22, x23, x24, x25, x26, x27, x28, x29, x30, x31, x32, x33, x34, x35, x36, x37, x38, x39, x40, x41, x42, x43, x44, x45, x46, x47, x48, x49, x50, x51, x52, x53, x54, x55, x56, x57, x58, x59, x60, x61, x62, x63, x64, x65, y66, y67, y68, y69, y70, y71, y72, y73, y74, y75, y76, y77, y78, y79, y80, x81, x82, x83], []⟩ ((w.setCell ⟨b, i, none⟩ (.string (X.extract 0 p ++ V ++ X.extract (p + L.size) X.size))).drew)) :
    Code.wp Tryd.prog r22_13C Q ⟨#[x0, x1, x2, x3, x4, .slice (some ⟨b, 0, none⟩) n n, .int .i64 (i : Int), .string X, x8, .string L, x10, .string V, x12, .int .i64 (p : Int), x14, x15, x16, x17, x18, x19, x20, x21, x22, x23, x24, x25, x26, x27, x28, x29, x30, x31, x32, x33, x34, x35, x36, x37, x38, x39, x40, x41, x42, x43, x44, x45, x46, x47, x48, x49, x50, x51, x52, x53, x54, x55, x56, x57, x58, x59, x60, x61, x62, x63, x64, x65, x66, x67, x68, x69, x70, x71, x72, x73, x74, x75, x76, x77, x78, x79, x80, x81, x82, x83], []⟩ w := by
  have HX := hide hexit
  clear hexit
  have e1 : (X.extract 0 p).size = p := by rw [ByteArray.size_extract]; omega
  have e2 : (X.extract (p + L.size) X.size).size = X.size - (p + L.size) := by rw [ByteArray.size_extract]; omega
  have r1 := fun wx : World => run_string_add_sum (P := Tryd.prog) wx (X.extract 0 p) V (by rw [e1]; omega)
  have r2 := fun wx : World => run_string_add_sum (P := Tryd.prog) wx (X.extract 0 p ++ V) (X.extract (p + L.size) X.size) (by rw [ByteArray.size_append, e1, e2]; omega)
  clear e1 e2
  have w1 : IntKind.i64.wrap ((p : Int) + (L.size : Int)) = (p : Int) + (L.size : Int) := IntWalk.i64_in _ (by omega)
  have w2 : ((p : Int) + (L.size : Int)).toNat = p + L.size := by omega
  have w3 : (0 : Int) ≤ (p : Int) + (L.size : Int) := by omega
  conv => arg 2; whnf
  refine wp_region_noPanic ?_
  go_region
  all_goals
    refine NoPanic.normal ?_
    exact unhide HX _ _ _ _ _ _ _ _ _ _ _ _ _ _ _
end Go.Proofs.YtgonllogaiiicaaDoor
