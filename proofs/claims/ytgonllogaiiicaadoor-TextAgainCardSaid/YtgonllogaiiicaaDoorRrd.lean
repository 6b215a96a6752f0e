/-
  Layer 17, the document's side: two regions of Read1 that draw their order.
-/
import Derived.Test.YtgonllogaiiicaaDoorRrb
namespace Go.Proofs.YtgonllogaiiicaaDoor
open Go.RowKit
set_option maxHeartbeats 4000000
set_option maxRecDepth 100000
/-- The region of that number. -/
def findReg (k : Nat) : Code → Option Code
  | .region i o b => if i = k then some (.region i o b) else none
  | .block _ c => findReg k c
  | .loop c => findReg k c
  | .seq a b => match findReg k a with
    | some c => some c
    | none => findReg k b
  | .scope c => findReg k c
  | .cond _ a b => match findReg k a with
    | some c => some c
    | none => findReg k b
  | _ => none
noncomputable def r19_36C : Code := (Tryd.f19.body.bind (findReg 36)).getD .skip
theorem r19_36 (x0 x1 x2 x3 x4 x5 x6 x8 x9 x11 x12 x13 x14 x15 x16 x17 x18 x19 x20 x21 x22 x23 x24 x25 x26 x27 x28 x29 x30 x31 x32 x33 x34 x35 x36 x37 x38 x39 x40 x41 x42 x43 x44 x45 x46 x47 x48 x49 x50 x51 x52 x53 x54 x55 x56 x57 x58 x59 x60 x61 x62 x63 x64 x65 x66 x67 x68 x69 x70 x71 x72 x73 x74 x75 x76 x77 x78 x79 x80 x81 x82 x83 x84 x85 x86 x87 x88 x89 x90 x91 x92 x93 x94 x95 x96 x97 x98 x99 x100 x101 x102 x103 x104 x105 x106 x107 x108 x109 x110 x111 x112 x113 x114 x115 x116 x117 x118 x119 x120 x121 x122 x123 x124 x125 x126 x127 x128 x129 x130 x131 x132 x133 x134 x135 x136 x137 x138 x139 x140 x141 x142 x143 x144 x145 x146 x147 x148 x149 : Value) (w : World) (g b n c : Nat) (q0 q1 : Int)
    (h0 : 0 < n) (_h1 : 1 < n) (h2 : (1 : Int) < (n : Int)) (c0 : w.cell? ⟨b, 0, none⟩ = some (.int .i64 q0)) (c1 : w.cell? ⟨b, 1, none⟩ = some (.int .i64 q1)) (a4 : w.cell? ⟨g, 4, none⟩ = some (.int .i64 0)) (a5 : w.cell? ⟨g, 5, none⟩ = some (.int .i64 0)) (f4 : w.frozen? ⟨g, 4, none⟩ = false) (f5 : w.frozen? ⟨g, 5, none⟩ = false) (_hne : b ≠ g)
    (Q : Exit → Act → World → Prop) (hexit : ∀ (y139 y140 y141 y142 y143 y144 y145 y146 y147 y148 : Value), Q .normal ⟨#[x0, x1, x2, x3, x4, x5, x6, .pointer (some ⟨g, 0, none⟩), x8, x9, .slice (some ⟨b, 0, none⟩) n c, x11, x12, x13, x14, x15, x16, x17, x18, x19, x20, x21, x22, x23, x24, x25, x26, x27, x28, x29, x30, x31, x32, x33, x34, x35, x36, x37, x38, x39, x40, x41, x42, x43, x44, x45, x46, x47, x48, x49, x50, x51, x52, x53, x54, x55, x56, x57, x58, x59, x60, x61, x62, x63, x64, x65, x66, x67, x68, x69, x70, x71, x72, x73, x74, x75, x76, x77, x78, x79, x80, x81, x82, x83, x84, x85, x86, x87, x88, x89, x90, x91, x92, x93, x94, x95, x96, x97, x98, x99, x100, x101, x102, x103, x104, x105, x106, x107, x108, x109, x110, x111, x112, x113, x114, x115, x116, x117, x118, x119, x120, x121, x122, x123, x124, x125, x126, x127, x128, x129, x130, x131, x132, x133, x134, x135, x136, x137, x138, y139, y140, y141, y142, y143, y144, y145, y146, y147, y148, x149], []⟩ (((w.setCell ⟨g, 4, none⟩ (.int .i64 q0)).setCell ⟨g, 5, none⟩ (.int .i64 q1)).drew)) :
    Code.wp Tryd.prog r19_36C Q ⟨#[x0, x1, x2, x3, x4, x5, x6, .pointer (some ⟨g, 0, none⟩), x8, x9, .slice (some ⟨b, 0, none⟩) n c, x11, x12, x13, x14, x15, x16, x17, x18, x19, x20, x21, x22, x23, x24, x25, x26, x27, x28, x29, x30, x31, x32, x33, x34, x35, x36, x37, x38, x39, x40, x41, x42, x43, x44, x45, x46, x47, x48, x49, x50, x51, x52, x53, x54, x55, x56, x57, x58, x59, x60, x61, x62, x63, x64, x65, x66, x67, x68, x69, x70, x71, x72, x73, x74, x75, x76, x77, x78, x79, x80, x81, x82, x83, x84, x85, x86, x87, x88, x89, x90, x91, x92, x93, x94, x95, x96, x97, x98, x99, x100, x101, x102, x103, x104, x105, x106, x107, x108, x109, x110, x111, x112, x113, x114, x115, x116, x117, x118, x119, x120, x121, x122, x123, x124, x125, x126, x127, x128, x129, x130, x131, x132, x133, x134, x135, x136, x137, x138, x139, x140, x141, x142, x143, x144, x145, x146, x147, x148, x149], []⟩ w := by
  have HX := hide hexit
  clear hexit
  conv => arg 2; whnf
  refine wp_region_noPanic ?_
  go_region
  all_goals
    refine NoPanic.normal ?_
    exact unhide HX _ _ _ _ _ _ _ _ _ _
noncomputable def r19_23C : Code := (Tryd.f19.body.bind (findReg 23)).getD .skip
theorem r19_23 (x0 x1 x2 x4 x5 x6 x8 x9 x10 x11 x12 x13 x14 x15 x16 x17 x18 x19 x20 x21 x22 x23 x24 x25 x26 x27 x28 x29 x30 x31 x32 x33 x34 x35 x36 x37 x38 x39 x40 x41 x42 x43 x44 x45 x46 x47 x48 x49 x50 x51 x52 x53 x54 x55 x56 x57 x58 x59 x60 x61 x62 x63 x64 x65 x66 x67 x68 x69 x70 x71 x72 x73 x74 x75 x76 x77 x78 x79 x80 x81 x82 x83 x84 x85 x86 x87 x88 x89 x90 x91 x92 x93 x94 x95 x96 x97 x98 x99 x100 x101 x102 x103 x104 x105 x106 x107 x108 x109 x110 x111 x112 x113 x114 x115 x116 x117 x118 x119 x120 x121 x122 x123 x124 x125 x126 x127 x128 x129 x130 x131 x132 x133 x134 x135 x136 x137 x138 x139 x140 x141 x142 x143 x144 x145 x146 x147 x148 x149 : Value) (w : World) (g b o n c : Nat) (S : ByteArray) (p : Int)
    (h1 : (1 : Int) < (n : Int)) (c0 : w.cell? ⟨b, o + 2, none⟩ = some (.string S)) (c1 : w.cell? ⟨b, o + 3, none⟩ = some (.int .i64 p)) (a1 : w.cell? ⟨g, 1, none⟩ = some (.string ⟨#[]⟩)) (a2 : w.cell? ⟨g, 2, none⟩ = some (.int .i64 0)) (f1 : w.frozen? ⟨g, 1, none⟩ = false) (f2 : w.frozen? ⟨g, 2, none⟩ = false) (_hne : b ≠ g)
    (Q : Exit → Act → World → Prop) (hexit : ∀ (y85 y86 y87 y88 y89 y90 y91 y92 y93 y94 : Value), Q .normal ⟨#[x0, x1, x2, .slice (some ⟨b, o, none⟩) n c, x4, x5, x6, .pointer (some ⟨g, 0, none⟩), .int .i64 2, x9, x10, x11, x12, x13, x14, x15, x16, x17, x18, x19, x20, x21, x22, x23, x24, x25, x26, x27, x28, x29, x30, x31, x32, x33, x34, x35, x36, x37, x38, x39, x40, x41, x42, x43, x44, x45, x46, x47, x48, x49, x50, x51, x52, x53, x54, x55, x56, x57, x58, x59, x60, x61, x62, x63, x64, x65, x66, x67, x68, x69, x70, x71, x72, x73, x74, x75, x76, x77, x78, x79, x80, x81, x82, x83, x84, y85, y86, y87, y88, y89, y90, y91, y92, y93, y94, x95, x96, x97, x98, x99, x100, x101, x102, x103, x104, x105, x106, x107, x108, x109, x110, x111, x112, x113, x114, x115, x116, x117, x118, x119, x120, x121, x122, x123, x124, x125, x126, x127, x128, x129, x130, x131, x132, x133, x134, x135, x136, x137, x138, x139, x140, x141, x142, x143, x144, x145, x146, x147, x148, x149], []⟩ (((w.setCell ⟨g, 1, none⟩ (.string S)).setCell ⟨g, 2, none⟩ (.int .i64 p)).drew)) :
    Code.wp Tryd.prog r19_23C Q ⟨#[x0, x1, x2, .slice (some ⟨b, o, none⟩) n c, x4, x5, x6, .pointer (some ⟨g, 0, none⟩), x8, x9, x10, x11, x12, x13, x14, x15, x16, x17, x18, x19, x20, x21, x22, x23, x24, x25, x26, x27, x28, x29, x30, x31, x32, x33, x34, x35, x36, x37, x38, x39, x40, x41, x42, x43, x44, x45, x46, x47, x48, x49, x50, x51, x52, x53, x54, x55, x56, x57, x58, x59, x60, x61, x62, x63, x64, x65, x66, x67, x68, x69, x70, x71, x72, x73, x74, x75, x76, x77, x78, x79, x80, x81, x82, x83, x84, x85, x86, x87, x88, x89, x90, x91, x92, x93, x94, x95, x96, x97, x98, x99, x100, x101, x102, x103, x104, x105, x106, x107, x108, x109, x110, x111, x112, x113, x114, x115, x116, x117, x118, x119, x120, x121, x122, x123, x124, x125, x126, x127, x128, x129, x130, x131, x132, x133, x134, x135, x136, x137, x138, x139, x140, x141, x142, x143, x144, x145, x146, x147, x148, x149], []⟩ w := by
  have HX := hide hexit
  clear hexit
  conv => arg 2; whnf
  refine wp_region_noPanic ?_
  go_region
  all_goals
    refine NoPanic.normal ?_
    exact unhide HX _ _ _ _ _ _ _ _ _ _
end Go.Proofs.YtgonllogaiiicaaDoor
