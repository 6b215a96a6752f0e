/-
  Layer 17: four regions of text.read that draw their order.
-/
import Derived.Test.YtgonllogaiiicaaDoorWh
import Derived.Test.YtgonllogaiiicaaDoorRrd
namespace Go.Proofs.YtgonllogaiiicaaDoor
open Go.RowKit
set_option maxHeartbeats 4000000
set_option maxRecDepth 100000
noncomputable def r41_12C : Code := (Tryd.f41.body.bind (findReg 12)).getD .skip
theorem r41_12 (x0 x1 x2 x3 x4 x6 x7 x8 x9 x10 x11 x12 x13 x14 x15 x16 x17 x18 x19 x20 x21 x22 x23 x24 x25 x26 x27 x28 x29 x30 x31 x32 x33 x34 x35 x36 x37 x38 x39 x40 x41 x42 x43 x44 x45 x46 x47 x48 x49 x50 x51 x52 x53 x54 x55 x56 x57 x58 x59 x60 x61 x62 x63 x64 x65 x66 x67 x68 x69 x70 x71 x72 x73 x74 x75 x76 x77 x78 x79 x80 x81 x82 x83 x84 x85 x86 x87 x88 x89 x90 x91 x92 x93 x94 x95 x96 x97 x98 x99 x100 x101 x102 x103 x104 x105 x106 x107 x108 x109 : Value) (w : World) (b o n c : Nat)
    (_h1 : 1 ≤ n) (_h2 : n ≤ c) (h3 : (1 : Int) ≤ (n : Int)) (_h4 : (n : Int) ≤ (c : Int)) (_h5 : 1 ≤ c)
    (Q : Exit → Act → World → Prop) (hexit : ∀ (y52 : Value), Q .normal ⟨#[x0, x1, x2, x3, x4, .slice (some ⟨b, o, none⟩) n c, x6, x7, x8, x9, .string ⟨#[]⟩, .slice (if c = 1 then some ⟨b, o, none⟩ else some ⟨b, o + 1, none⟩) (n - 1) (c - 1), x12, x13, x14, x15, x16, x17, x18, x19, x20, x21, x22, x23, x24, x25, x26, x27, x28, x29, x30, x31, x32, x33, x34, x35, x36, x37, x38, x39, x40, x41, x42, x43, x44, x45, x46, x47, x48, x49, x50, x51, y52, .slice (if c = 1 then some ⟨b, o, none⟩ else some ⟨b, o + 1, none⟩) (n - 1) (c - 1), x54, x55, x56, x57, x58, x59, x60, x61, x62, x63, x64, x65, x66, x67, x68, x69, x70, x71, x72, x73, x74, x75, x76, x77, x78, x79, x80, x81, x82, x83, x84, x85, x86, x87, x88, x89, x90, x91, x92, x93, x94, x95, x96, x97, x98, x99, x100, x101, x102, x103, x104, x105, x106, x107, x108, x109], []⟩ (w.drew)) :
    Code.wp Tryd.prog r41_12C Q ⟨#[x0, x1, x2, x3, x4, .slice (some ⟨b, o, none⟩) n c, x6, x7, x8, x9, x10, x11, x12, x13, x14, x15, x16, x17, x18, x19, x20, x21, x22, x23, x24, x25, x26, x27, x28, x29, x30, x31, x32, x33, x34, x35, x36, x37, x38, x39, x40, x41, x42, x43, x44, x45, x46, x47, x48, x49, x50, x51, x52, x53, x54, x55, x56, x57, x58, x59, x60, x61, x62, x63, x64, x65, x66, x67, x68, x69, x70, x71, x72, x73, x74, x75, x76, x77, x78, x79, x80, x81, x82, x83, x84, x85, x86, x87, x88, x89, x90, x91, x92, x93, x94, x95, x96, x97, x98, x99, x100, x101, x102, x103, x104, x105, x106, x107, x108, x109], []⟩ w := by
  have HX := hide hexit
  clear hexit
  conv => arg 2; whnf
  refine wp_region_noPanic ?_
  go_region
  all_goals
    refine NoPanic.normal ?_
    exact unhide HX _
noncomputable def r41_16C : Code := (Tryd.f41.body.bind (findReg 16)).getD .skip
theorem r41_16 (x0 x1 x2 x3 x4 x5 x6 x7 x8 x9 x10 x12 x13 x14 x15 x16 x17 x18 x19 x20 x21 x22 x23 x24 x25 x26 x27 x28 x29 x30 x31 x32 x33 x34 x35 x36 x37 x38 x39 x40 x41 x42 x43 x44 x45 x46 x47 x48 x49 x50 x51 x52 x53 x54 x55 x56 x57 x58 x59 x60 x61 x62 x63 x64 x65 x66 x67 x68 x69 x70 x71 x72 x73 x74 x75 x76 x77 x78 x79 x80 x81 x82 x83 x84 x85 x86 x87 x88 x89 x90 x91 x92 x93 x94 x95 x96 x97 x98 x99 x100 x101 x102 x103 x104 x105 x106 x107 x108 x109 : Value) (w : World) (b o n c : Nat) (S : ByteArray)
    (h0 : 0 < n) (_h1 : 1 ≤ n) (_h2 : n ≤ c) (h3 : (1 : Int) ≤ (n : Int)) (_h4 : (n : Int) ≤ (c : Int)) (_h5 : 1 ≤ c) (c0 : w.cell? ⟨b, o, none⟩ = some (.string S))
    (Q : Exit → Act → World → Prop) (hexit : ∀ (y67 y68 y69 y70 : Value), Q .normal ⟨#[x0, x1, x2, x3, x4, x5, x6, x7, x8, x9, .string S, .slice (if c = 1 then some ⟨b, o, none⟩ else some ⟨b, o + 1, none⟩) (n - 1) (c - 1), x12, x13, x14, x15, x16, x17, x18, x19, x20, x21, x22, x23, x24, x25, x26, x27, x28, x29, x30, x31, x32, x33, x34, x35, x36, x37, x38, x39, x40, x41, x42, x43, x44, x45, x46, x47, x48, x49, x50, x51, x52, x53, x54, x55, x56, x57, x58, x59, x60, x61, x62, x63, x64, x65, x66, y67, y68, y69, y70, .slice (if c = 1 then some ⟨b, o, none⟩ else some ⟨b, o + 1, none⟩) (n - 1) (c - 1), x72, x73, x74, x75, x76, x77, x78, x79, x80, x81, x82, x83, x84, x85, x86, x87, x88, x89, x90, x91, x92, x93, x94, x95, x96, x97, x98, x99, x100, x101, x102, x103, x104, x105, x106, x107, x108, x109], []⟩ (w.drew)) :
    Code.wp Tryd.prog r41_16C Q ⟨#[x0, x1, x2, x3, x4, x5, x6, x7, x8, x9, x10, .slice (some ⟨b, o, none⟩) n c, x12, x13, x14, x15, x16, x17, x18, x19, x20, x21, x22, x23, x24, x25, x26, x27, x28, x29, x30, x31, x32, x33, x34, x35, x36, x37, x38, x39, x40, x41, x42, x43, x44, x45, x46, x47, x48, x49, x50, x51, x52, x53, x54, x55, x56, x57, x58, x59, x60, x61, x62, x63, x64, x65, x66, x67, x68, x69, x70, x71, x72, x73, x74, x75, x76, x77, x78, x79, x80, x81, x82, x83, x84, x85, x86, x87, x88, x89, x90, x91, x92, x93, x94, x95, x96, x97, x98, x99, x100, x101, x102, x103, x104, x105, x106, x107, x108, x109], []⟩ w := by
  have HX := hide hexit
  clear hexit
  conv => arg 2; whnf
  refine wp_region_noPanic ?_
  go_region
  all_goals
    refine NoPanic.normal ?_
    exact unhide HX _ _ _ _
noncomputable def r41_29C : Code := (Tryd.f41.body.bind (findReg 29)).getD .skip
theorem r41_29 (x0 x1 x2 x3 x5 x6 x7 x9 x11 x13 x14 x15 x16 x17 x18 x19 x20 x21 x22 x23 x24 x25 x26 x27 x28 x29 x30 x31 x32 x33 x34 x35 x36 x37 x38 x39 x40 x41 x42 x43 x44 x45 x46 x47 x48 x49 x50 x51 x52 x53 x54 x55 x56 x57 x58 x59 x60 x61 x62 x63 x64 x65 x66 x67 x68 x69 x70 x71 x72 x73 x74 x75 x76 x77 x78 x79 x80 x81 x82 x83 x84 x85 x86 x87 x88 x89 x90 x91 x92 x93 x94 x95 x96 x97 x98 x99 x100 x101 x102 x103 x104 x105 x106 x107 x108 x109 : Value) (w : World) (g l : Nat) (op q0 : Int) (S : ByteArray)
    (c0 : w.cell? ⟨l, 0, none⟩ = some (.int .i64 q0)) (a0 : w.cell? ⟨g, 0, none⟩ = some (.int .i64 0)) (a1 : w.cell? ⟨g, 1, none⟩ = some (.int .i64 0)) (a2 : w.cell? ⟨g, 2, none⟩ = some (.int .i64 0)) (f0 : w.frozen? ⟨g, 0, none⟩ = false) (f1 : w.frozen? ⟨g, 1, none⟩ = false) (f2 : w.frozen? ⟨g, 2, none⟩ = false) (_hne : l ≠ g)
    (Q : Exit → Act → World → Prop) (hexit : ∀ (y99 y100 y101 y102 y103 : Value), Q .normal ⟨#[x0, x1, .int .i64 3, .string S, .pointer (some ⟨g, 0, none⟩), x5, x6, x7, .int .i64 op, x9, .string S, x11, .pointer (some ⟨l, 0, none⟩), x13, x14, x15, x16, x17, x18, x19, x20, x21, x22, x23, x24, x25, x26, x27, x28, x29, x30, x31, x32, x33, x34, x35, x36, x37, x38, x39, x40, x41, x42, x43, x44, x45, x46, x47, x48, x49, x50, x51, x52, x53, x54, x55, x56, x57, x58, x59, x60, x61, x62, x63, x64, x65, x66, x67, x68, x69, x70, x71, x72, x73, x74, x75, x76, x77, x78, x79, x80, x81, x82, x83, x84, x85, x86, x87, x88, x89, x90, x91, x92, x93, x94, x95, x96, x97, x98, y99, y100, y101, y102, y103, x104, x105, x106, x107, x108, x109], []⟩ ((((w.setCell ⟨g, 0, none⟩ (.int .i64 op)).setCell ⟨g, 1, none⟩ (.int .i64 0)).setCell ⟨g, 2, none⟩ (.int .i64 q0)).drew)) :
    Code.wp Tryd.prog r41_29C Q ⟨#[x0, x1, x2, x3, .pointer (some ⟨g, 0, none⟩), x5, x6, x7, .int .i64 op, x9, .string S, x11, .pointer (some ⟨l, 0, none⟩), x13, x14, x15, x16, x17, x18, x19, x20, x21, x22, x23, x24, x25, x26, x27, x28, x29, x30, x31, x32, x33, x34, x35, x36, x37, x38, x39, x40, x41, x42, x43, x44, x45, x46, x47, x48, x49, x50, x51, x52, x53, x54, x55, x56, x57, x58, x59, x60, x61, x62, x63, x64, x65, x66, x67, x68, x69, x70, x71, x72, x73, x74, x75, x76, x77, x78, x79, x80, x81, x82, x83, x84, x85, x86, x87, x88, x89, x90, x91, x92, x93, x94, x95, x96, x97, x98, x99, x100, x101, x102, x103, x104, x105, x106, x107, x108, x109], []⟩ w := by
  have HX := hide hexit
  clear hexit
  conv => arg 2; whnf
  refine wp_region_noPanic ?_
  go_region
  all_goals
    refine NoPanic.normal ?_
    exact unhide HX _ _ _ _ _
noncomputable def r41_30C : Code := (Tryd.f41.body.bind (findReg 30)).getD .skip
theorem r41_30 (x0 x1 x2 x3 x5 x6 x7 x9 x10 x11 x13 x14 x15 x16 x17 x18 x19 x20 x21 x22 x23 x24 x25 x26 x27 x28 x29 x30 x31 x32 x33 x34 x35 x36 x37 x38 x39 x40 x41 x42 x43 x44 x45 x46 x47 x48 x49 x50 x51 x52 x53 x54 x55 x56 x57 x58 x59 x60 x61 x62 x63 x64 x65 x66 x67 x68 x69 x70 x71 x72 x73 x74 x75 x76 x77 x78 x79 x80 x81 x82 x83 x84 x85 x86 x87 x88 x89 x90 x91 x92 x93 x94 x95 x96 x97 x98 x99 x100 x101 x102 x103 x104 x105 x106 x107 x108 x109 : Value) (w : World) (g l : Nat) (op q0 q1 : Int)
    (c0 : w.cell? ⟨l, 0, none⟩ = some (.int .i64 q0)) (c1 : w.cell? ⟨l, 1, none⟩ = some (.int .i64 q1)) (a0 : w.cell? ⟨g, 0, none⟩ = some (.int .i64 0)) (a1 : w.cell? ⟨g, 1, none⟩ = some (.int .i64 0)) (a2 : w.cell? ⟨g, 2, none⟩ = some (.int .i64 0)) (f0 : w.frozen? ⟨g, 0, none⟩ = false) (f1 : w.frozen? ⟨g, 1, none⟩ = false) (f2 : w.frozen? ⟨g, 2, none⟩ = false) (_hne : l ≠ g)
    (Q : Exit → Act → World → Prop) (hexit : ∀ (y104 y105 y106 y107 y108 y109 : Value), Q .normal ⟨#[x0, x1, .int .i64 3, .string ⟨#[]⟩, .pointer (some ⟨g, 0, none⟩), x5, x6, x7, .int .i64 op, x9, x10, x11, .pointer (some ⟨l, 0, none⟩), x13, x14, x15, x16, x17, x18, x19, x20, x21, x22, x23, x24, x25, x26, x27, x28, x29, x30, x31, x32, x33, x34, x35, x36, x37, x38, x39, x40, x41, x42, x43, x44, x45, x46, x47, x48, x49, x50, x51, x52, x53, x54, x55, x56, x57, x58, x59, x60, x61, x62, x63, x64, x65, x66, x67, x68, x69, x70, x71, x72, x73, x74, x75, x76, x77, x78, x79, x80, x81, x82, x83, x84, x85, x86, x87, x88, x89, x90, x91, x92, x93, x94, x95, x96, x97, x98, x99, x100, x101, x102, x103, y104, y105, y106, y107, y108, y109], []⟩ ((((w.setCell ⟨g, 0, none⟩ (.int .i64 op)).setCell ⟨g, 1, none⟩ (.int .i64 q0)).setCell ⟨g, 2, none⟩ (.int .i64 q1)).drew)) :
    Code.wp Tryd.prog r41_30C Q ⟨#[x0, x1, x2, x3, .pointer (some ⟨g, 0, none⟩), x5, x6, x7, .int .i64 op, x9, x10, x11, .pointer (some ⟨l, 0, none⟩), x13, x14, x15, x16, x17, x18, x19, x20, x21, x22, x23, x24, x25, x26, x27, x28, x29, x30, x31, x32, x33, x34, x35, x36, x37, x38, x39, x40, x41, x42, x43, x44, x45, x46, x47, x48, x49, x50, x51, x52, x53, x54, x55, x56, x57, x58, x59, x60, x61, x62, x63, x64, x65, x66, x67, x68, x69, x70, x71, x72, x73, x74, x75, x76, x77, x78, x79, x80, x81, x82, x83, x84, x85, x86, x87, x88, x89, x90, x91, x92, x93, x94, x95, x96, x97, x98, x99, x100, x101, x102, x103, x104, x105, x106, x107, x108, x109], []⟩ w := by
  have HX := hide hexit
  clear hexit
  conv => arg 2; whnf
  refine wp_region_noPanic ?_
  go_region
  all_goals
    refine NoPanic.normal ?_
    exact unhide HX _ _ _ _ _ _
end Go.Proofs.YtgonllogaiiicaaDoor
