/-
  Layer 19: no instruction takes what is not there: what follows it. Layer 19: no instruction takes what is not there: all of them. Layer 19: no instruction takes what is not there: the walk.
-/
import Derived.Test.YtejkaalhjocmgaaDoorZb
import Derived.Deep.QuietTactic
import Derived.BigQuiet
import Derived.Deep.RegionHeld3
namespace Go.Proofs.YtejkaalhjocmgaaDoor
open Go.RowKit
set_option maxHeartbeats 2000000
set_option maxRecDepth 1000000
theorem fol_n15 (x0 x1 x2 x7 x8 x9 x10 x11 x12 x13 x14 x15 x16 x17 x18 x19 x20 x21 x22 x23 x24 x25 x26 x27 x28 x29 x30 x31 x32 x33 x34 x35 x36 x37 x38 x39 x40 x41 x42 x43 x44 x45 x46 x47 x48 x49 x50 x51 x52 x53 x54 x55 x56 x57 x58 x59 x60 x61 x62 x63 x64 x65 x66 x67 x68 x69 x70 x71 x72 x73 x74 x75 x76 x77 x78 x79 x80 x81 x82 x83 x84 x85 x86 x87 x88 x89 x90 x91 x92 x93 x94 x95 x96 x97 x98 x99 x100 x101 x102 x103 x104 x105 x106 x107 x108 x109 x110 x111 x112 x113 x114 x115 x116 x117 x118 x119 x120 x121 x122 x123 x124 x125 x126 x127 x128 x129 x130 x131 x132 x133 x134 x135 x136 x137 x138 x139 x140 x141 x142 x143 x144 x145 x146 x147 x148 x149 x150 x151 x152 x153 x154 x155 x156 x157 x158 x159 x160 x161 x162 x163 x164 x165 x166 x167 x168 x169 x170 x171 x172 x173 x174 x175 x176 x177 x178 x179 x180 x181 x182 x183 x184 x185 x186 x187 x188 x189 x190 x191 x192 x193 x194 x195 x196 x197 x198 x199 x200 x201 x202 x203 x204 x205 x206 x207 x208 x209 x210 x211 : Value) (w : World) (bd od cd bo oo co n k ib : Nat) (op a b dk ok_ : Int) (hib : Blk w ib 42 #[.int .i64 op, .int .i64 a, .int .i64 b]) (h0 : 0 ≤ op ∧ op ≤ 20) (ha : 0 ≤ a ∧ a ≤ 1048576) (_hn : n ≤ 1000) (hk : k < n) (d0 : w.cell? ⟨bd, od + k, none⟩ = some (.int .i64 dk)) (o0 : w.cell? ⟨bo, oo + k, none⟩ = some (.int .i64 ok_)) (hL : leastI ⟨op, a, b⟩ ≤ dk) (an : Nat) (han : a = (an : Int)) (han2 : an < n) (da : Int) (hda : 0 ≤ da) (da1 : w.cell? ⟨bd, od + an, none⟩ = some (.int .i64 da)) (oa1 : w.cell? ⟨bo, oo + an, none⟩ = some (.int .i64 ok_)) (hop : op = 15)
    (Q : Exit → Act → World → Prop) (hexit : ∀ (y7 y8 y71 y72 y73 y74 y75 y76 y77 y78 y79 y80 y81 y82 y83 y84 y85 y86 y87 y88 y89 y90 y91 y92 y93 y94 y95 y96 y97 y98 y99 y100 y101 y102 y103 y104 y105 y106 y107 y108 y109 y110 y111 y112 y113 y114 y115 y116 y117 y118 y119 y120 y121 y122 y123 y124 y125 y126 y127 y128 y129 y130 y131 y132 y133 y134 y135 y136 y137 y138 y139 y140 y141 y142 y143 y144 y145 y146 y147 y148 y149 y150 y151 y152 y153 y154 y155 y156 y157 y158 y159 y160 y161 y162 y163 y164 y165 y166 y167 y168 y169 y170 y171 y172 y173 y174 y175 y176 y177 y178 y179 y180 y181 y182 y183 y184 y185 y186 y187 y188 y189 y190 y191 y192 y193 y194 y195 y196 y197 y198 y199 y200 y201 y202 y203 y204 y205 y206 y207 y208 y209 y210 y211 : Value) (w' : World), Chg (fun _ => False) w w' → Q .normal ⟨#[x0, x1, x2, .slice (some ⟨bd, od, none⟩) n cd, .slice (some ⟨bo, oo, none⟩) n co, .int .i64 (k : Int), .pointer (some ⟨ib, 0, none⟩), y7, y8, x9, x10, x11, x12, x13, x14, x15, x16, x17, x18, x19, x20, x21, x22, x23, x24, x25, x26, x27, x28, x29, x30, x31, x32, x33, x34, x35, x36, x37, x38, x39, x40, x41, x42, x43, x44, x45, x46, x47, x48, x49, x50, x51, x52, x53, x54, x55, x56, x57, x58, x59, x60, x61, x62, x63, x64, x65, x66, x67, x68, x69, x70, y71, y72, y73, y74, y75, y76, y77, y78, y79, y80, y81, y82, y83, y84, y85, y86, y87, y88, y89, y90, y91, y92, y93, y94, y95, y96, y97, y98, y99, y100, y101, y102, y103, y104, y105, y106, y107, y108, y109, y110, y111, y112, y113, y114, y115, y116, y117, y118, y119, y120, y121, y122, y123, y124, y125, y126, y127, y128, y129, y130, y131, y132, y133, y134, y135, y136, y137, y138, y139, y140, y141, y142, y143, y144, y145, y146, y147, y148, y149, y150, y151, y152, y153, y154, y155, y156, y157, y158, y159, y160, y161, y162, y163, y164, y165, y166, y167, y168, y169, y170, y171, y172, y173, y174, y175, y176, y177, y178, y179, y180, y181, y182, y183, y184, y185, y186, y187, y188, y189, y190, y191, y192, y193, y194, y195, y196, y197, y198, y199, y200, y201, y202, y203, y204, y205, y206, y207, y208, y209, y210, y211], []⟩ w') :
    Code.wp Tryd.prog bodyC Q ⟨#[x0, x1, x2, .slice (some ⟨bd, od, none⟩) n cd, .slice (some ⟨bo, oo, none⟩) n co, .int .i64 (k : Int), .pointer (some ⟨ib, 0, none⟩), x7, x8, x9, x10, x11, x12, x13, x14, x15, x16, x17, x18, x19, x20, x21, x22, x23, x24, x25, x26, x27, x28, x29, x30, x31, x32, x33, x34, x35, x36, x37, x38, x39, x40, x41, x42, x43, x44, x45, x46, x47, x48, x49, x50, x51, x52, x53, x54, x55, x56, x57, x58, x59, x60, x61, x62, x63, x64, x65, x66, x67, x68, x69, x70, x71, x72, x73, x74, x75, x76, x77, x78, x79, x80, x81, x82, x83, x84, x85, x86, x87, x88, x89, x90, x91, x92, x93, x94, x95, x96, x97, x98, x99, x100, x101, x102, x103, x104, x105, x106, x107, x108, x109, x110, x111, x112, x113, x114, x115, x116, x117, x118, x119, x120, x121, x122, x123, x124, x125, x126, x127, x128, x129, x130, x131, x132, x133, x134, x135, x136, x137, x138, x139, x140, x141, x142, x143, x144, x145, x146, x147, x148, x149, x150, x151, x152, x153, x154, x155, x156, x157, x158, x159, x160, x161, x162, x163, x164, x165, x166, x167, x168, x169, x170, x171, x172, x173, x174, x175, x176, x177, x178, x179, x180, x181, x182, x183, x184, x185, x186, x187, x188, x189, x190, x191, x192, x193, x194, x195, x196, x197, x198, x199, x200, x201, x202, x203, x204, x205, x206, x207, x208, x209, x210, x211], []⟩ w := by
  have c0 := hib.cell 0
  have c1 := hib.cell 1
  have c2 := hib.cell 2
  simp only [List.getElem?_toArray, List.getElem?_cons_zero, List.getElem?_cons_succ] at c0 c1 c2
  have HIB := hide hib
  have HX := hide hexit
  have hd := decide_eq_false (Int.not_lt.2 hL)
  clear hexit hib hL
  subst han
  have han3 : (an : Int) < (n : Int) := by omega
  have hda2 : decide (da < 0) = false := decide_eq_false (by omega)
  subst hop
  have HGO := hide (fun W => refGoes_any 15 W)
  rw [(show goesB 15 = true by decide)] at HGO
  conv => arg 2; whnf
  go_upto_block 2 with fail
  refine fol_least _ _ _ _ _ _ _ _ _ _ _ _ _ _ _ _ _ _ _ _ _ _ _ _ _ _ _ _ _ _ _ _ _ _ _ _ _ _ _ _ _ _ _ _ _ _ _ _ _ _ _ _ _ _ _ _ _ _ _ _ _ _ _ _ _ _ _ _ _ _ _ _ _ _ _ _ _ _ _ _ _ _ _ _ _ _ _ _ _ _ _ _ _ _ _ _ _ _ _ _ _ _ _ _ _ _ _ _ _ _ _ _ _ _ _ _ _ _ _ _ _ _ _ _ _ _ _ _ _ _ _ _ _ _ _ _ _ _ _ _ _ _ _ _ _ _ _ _ _ _ _ _ _ _ _ _ _ _ _ _ _ _ _ _ _ _ _ _ _ _ _ _ _ _ _ _ _ _ _ _ _ _ _ _ _ _ _ _ _ _ _ _ _ _ _ _ _ _ _ _ _ _ _ _ _ _ _ _ _ w ⟨15, (an : Int), b⟩ ib (unhide HIB) h0 ha _ ?_
  intro z73 z74 z75 z76 z77 z78 z79 z80 z81 z82 z83 z84 z85 z86 z87 z88 z89 z90 z91 z92 z93 z94 z95 z96 z97 z98 z99 z100 z101 z102 z103
  generalize leastI ⟨15, (an : Int), b⟩ = L at *
  clear HIB
  go_wp2_with fail
  go_quiet (fail)
  have hq : Chg (fun _ => False) w (w.drewN nq) := (Chg.refl _ w).drewN nq
  have c0q : (w.drewN nq).cell? ⟨ib, 0, none⟩ = some (.int .i64 15) := c0
  have c1q : (w.drewN nq).cell? ⟨ib, 1, none⟩ = some (.int .i64 (an : Int)) := c1
  have d0q : (w.drewN nq).cell? ⟨bd, od + k, none⟩ = some (.int .i64 dk) := d0
  have o0q : (w.drewN nq).cell? ⟨bo, oo + k, none⟩ = some (.int .i64 ok_) := o0
  have daq : (w.drewN nq).cell? ⟨bd, od + an, none⟩ = some (.int .i64 da) := da1
  have oaq : (w.drewN nq).cell? ⟨bo, oo + an, none⟩ = some (.int .i64 ok_) := oa1
  generalize w.drewN nq = w1 at *
  have HQ := hide hq
  clear hq
  go_wp2_with fail
  go_quiet ((go_at_call 17; exact Calls.quiet_of_same (qw (unhide HGO _))))
  go_wp2_with fail
  exact unhide HX _ _ _ _ _ _ _ _ _ _ _ _ _ _ _ _ _ _ _ _ _ _ _ _ _ _ _ _ _ _ _ _ _ _ _ _ _ _ _ _ _ _ _ _ _ _ _ _ _ _ _ _ _ _ _ _ _ _ _ _ _ _ _ _ _ _ _ _ _ _ _ _ _ _ _ _ _ _ _ _ _ _ _ _ _ _ _ _ _ _ _ _ _ _ _ _ _ _ _ _ _ _ _ _ _ _ _ _ _ _ _ _ _ _ _ _ _ _ _ _ _ _ _ _ _ _ _ _ _ _ _ _ _ _ _ _ _ _ _ _ _ _ _ _ ((unhide HQ).drewN _)
theorem fol_n18 (x0 x1 x2 x7 x8 x9 x10 x11 x12 x13 x14 x15 x16 x17 x18 x19 x20 x21 x22 x23 x24 x25 x26 x27 x28 x29 x30 x31 x32 x33 x34 x35 x36 x37 x38 x39 x40 x41 x42 x43 x44 x45 x46 x47 x48 x49 x50 x51 x52 x53 x54 x55 x56 x57 x58 x59 x60 x61 x62 x63 x64 x65 x66 x67 x68 x69 x70 x71 x72 x73 x74 x75 x76 x77 x78 x79 x80 x81 x82 x83 x84 x85 x86 x87 x88 x89 x90 x91 x92 x93 x94 x95 x96 x97 x98 x99 x100 x101 x102 x103 x104 x105 x106 x107 x108 x109 x110 x111 x112 x113 x114 x115 x116 x117 x118 x119 x120 x121 x122 x123 x124 x125 x126 x127 x128 x129 x130 x131 x132 x133 x134 x135 x136 x137 x138 x139 x140 x141 x142 x143 x144 x145 x146 x147 x148 x149 x150 x151 x152 x153 x154 x155 x156 x157 x158 x159 x160 x161 x162 x163 x164 x165 x166 x167 x168 x169 x170 x171 x172 x173 x174 x175 x176 x177 x178 x179 x180 x181 x182 x183 x184 x185 x186 x187 x188 x189 x190 x191 x192 x193 x194 x195 x196 x197 x198 x199 x200 x201 x202 x203 x204 x205 x206 x207 x208 x209 x210 x211 : Value) (w : World) (bd od cd bo oo co n k ib : Nat) (op a b dk ok_ : Int) (hib : Blk w ib 42 #[.int .i64 op, .int .i64 a, .int .i64 b]) (h0 : 0 ≤ op ∧ op ≤ 20) (ha : 0 ≤ a ∧ a ≤ 1048576) (hn : n ≤ 1000) (hk : k < n) (d0 : w.cell? ⟨bd, od + k, none⟩ = some (.int .i64 dk)) (o0 : w.cell? ⟨bo, oo + k, none⟩ = some (.int .i64 ok_)) (hL : leastI ⟨op, a, b⟩ ≤ dk) (hk1n : k + 1 < n) (dk1 : Int) (hdk1 : 0 ≤ dk1) (d1 : w.cell? ⟨bd, od + (k + 1), none⟩ = some (.int .i64 dk1)) (o1 : w.cell? ⟨bo, oo + (k + 1), none⟩ = some (.int .i64 ok_)) (an : Nat) (han : a = (an : Int)) (han2 : an < n) (da1 : w.cell? ⟨bd, od + an, none⟩ = some (.int .i64 1)) (oa1 : w.cell? ⟨bo, oo + an, none⟩ = some (.int .i64 (an : Int))) (hop : op = 18)
    (Q : Exit → Act → World → Prop) (hexit : ∀ (y7 y8 y71 y72 y73 y74 y75 y76 y77 y78 y79 y80 y81 y82 y83 y84 y85 y86 y87 y88 y89 y90 y91 y92 y93 y94 y95 y96 y97 y98 y99 y100 y101 y102 y103 y104 y105 y106 y107 y108 y109 y110 y111 y112 y113 y114 y115 y116 y117 y118 y119 y120 y121 y122 y123 y124 y125 y126 y127 y128 y129 y130 y131 y132 y133 y134 y135 y136 y137 y138 y139 y140 y141 y142 y143 y144 y145 y146 y147 y148 y149 y150 y151 y152 y153 y154 y155 y156 y157 y158 y159 y160 y161 y162 y163 y164 y165 y166 y167 y168 y169 y170 y171 y172 y173 y174 y175 y176 y177 y178 y179 y180 y181 y182 y183 y184 y185 y186 y187 y188 y189 y190 y191 y192 y193 y194 y195 y196 y197 y198 y199 y200 y201 y202 y203 y204 y205 y206 y207 y208 y209 y210 y211 : Value) (w' : World), Chg (fun _ => False) w w' → Q .normal ⟨#[x0, x1, x2, .slice (some ⟨bd, od, none⟩) n cd, .slice (some ⟨bo, oo, none⟩) n co, .int .i64 (k : Int), .pointer (some ⟨ib, 0, none⟩), y7, y8, x9, x10, x11, x12, x13, x14, x15, x16, x17, x18, x19, x20, x21, x22, x23, x24, x25, x26, x27, x28, x29, x30, x31, x32, x33, x34, x35, x36, x37, x38, x39, x40, x41, x42, x43, x44, x45, x46, x47, x48, x49, x50, x51, x52, x53, x54, x55, x56, x57, x58, x59, x60, x61, x62, x63, x64, x65, x66, x67, x68, x69, x70, y71, y72, y73, y74, y75, y76, y77, y78, y79, y80, y81, y82, y83, y84, y85, y86, y87, y88, y89, y90, y91, y92, y93, y94, y95, y96, y97, y98, y99, y100, y101, y102, y103, y104, y105, y106, y107, y108, y109, y110, y111, y112, y113, y114, y115, y116, y117, y118, y119, y120, y121, y122, y123, y124, y125, y126, y127, y128, y129, y130, y131, y132, y133, y134, y135, y136, y137, y138, y139, y140, y141, y142, y143, y144, y145, y146, y147, y148, y149, y150, y151, y152, y153, y154, y155, y156, y157, y158, y159, y160, y161, y162, y163, y164, y165, y166, y167, y168, y169, y170, y171, y172, y173, y174, y175, y176, y177, y178, y179, y180, y181, y182, y183, y184, y185, y186, y187, y188, y189, y190, y191, y192, y193, y194, y195, y196, y197, y198, y199, y200, y201, y202, y203, y204, y205, y206, y207, y208, y209, y210, y211], []⟩ w') :
    Code.wp Tryd.prog bodyC Q ⟨#[x0, x1, x2, .slice (some ⟨bd, od, none⟩) n cd, .slice (some ⟨bo, oo, none⟩) n co, .int .i64 (k : Int), .pointer (some ⟨ib, 0, none⟩), x7, x8, x9, x10, x11, x12, x13, x14, x15, x16, x17, x18, x19, x20, x21, x22, x23, x24, x25, x26, x27, x28, x29, x30, x31, x32, x33, x34, x35, x36, x37, x38, x39, x40, x41, x42, x43, x44, x45, x46, x47, x48, x49, x50, x51, x52, x53, x54, x55, x56, x57, x58, x59, x60, x61, x62, x63, x64, x65, x66, x67, x68, x69, x70, x71, x72, x73, x74, x75, x76, x77, x78, x79, x80, x81, x82, x83, x84, x85, x86, x87, x88, x89, x90, x91, x92, x93, x94, x95, x96, x97, x98, x99, x100, x101, x102, x103, x104, x105, x106, x107, x108, x109, x110, x111, x112, x113, x114, x115, x116, x117, x118, x119, x120, x121, x122, x123, x124, x125, x126, x127, x128, x129, x130, x131, x132, x133, x134, x135, x136, x137, x138, x139, x140, x141, x142, x143, x144, x145, x146, x147, x148, x149, x150, x151, x152, x153, x154, x155, x156, x157, x158, x159, x160, x161, x162, x163, x164, x165, x166, x167, x168, x169, x170, x171, x172, x173, x174, x175, x176, x177, x178, x179, x180, x181, x182, x183, x184, x185, x186, x187, x188, x189, x190, x191, x192, x193, x194, x195, x196, x197, x198, x199, x200, x201, x202, x203, x204, x205, x206, x207, x208, x209, x210, x211], []⟩ w := by
  have c0 := hib.cell 0
  have c1 := hib.cell 1
  have c2 := hib.cell 2
  simp only [List.getElem?_toArray, List.getElem?_cons_zero, List.getElem?_cons_succ] at c0 c1 c2
  have HIB := hide hib
  have HX := hide hexit
  have hd := decide_eq_false (Int.not_lt.2 hL)
  clear hexit hib hL
  have hw1 : IntKind.i64.wrap ((k : Int) + 1) = (k : Int) + 1 := IntWalk.i64_in _ (by omega)
  have hk1 : (0 : Int) ≤ (k : Int) + 1 := by omega
  have hk2 : (k : Int) + 1 < (n : Int) := by omega
  have hk3 : decide ((n : Int) ≤ (k : Int) + 1) = false := decide_eq_false (by omega)
  have hk4 : ((k : Int) + 1).toNat = k + 1 := by omega
  have hk5 : decide (dk1 < 0) = false := decide_eq_false (by omega)
  subst han
  have han3 : (an : Int) < (n : Int) := by omega
  subst hop
  have HGO := hide (fun W => refGoes_any 18 W)
  rw [(show goesB 18 = true by decide)] at HGO
  conv => arg 2; whnf
  go_upto_block 2 with fail
  refine fol_least _ _ _ _ _ _ _ _ _ _ _ _ _ _ _ _ _ _ _ _ _ _ _ _ _ _ _ _ _ _ _ _ _ _ _ _ _ _ _ _ _ _ _ _ _ _ _ _ _ _ _ _ _ _ _ _ _ _ _ _ _ _ _ _ _ _ _ _ _ _ _ _ _ _ _ _ _ _ _ _ _ _ _ _ _ _ _ _ _ _ _ _ _ _ _ _ _ _ _ _ _ _ _ _ _ _ _ _ _ _ _ _ _ _ _ _ _ _ _ _ _ _ _ _ _ _ _ _ _ _ _ _ _ _ _ _ _ _ _ _ _ _ _ _ _ _ _ _ _ _ _ _ _ _ _ _ _ _ _ _ _ _ _ _ _ _ _ _ _ _ _ _ _ _ _ _ _ _ _ _ _ _ _ _ _ _ _ _ _ _ _ _ _ _ _ _ _ _ _ _ _ _ _ _ _ _ _ _ _ w ⟨18, (an : Int), b⟩ ib (unhide HIB) h0 ha _ ?_
  intro z73 z74 z75 z76 z77 z78 z79 z80 z81 z82 z83 z84 z85 z86 z87 z88 z89 z90 z91 z92 z93 z94 z95 z96 z97 z98 z99 z100 z101 z102 z103
  generalize leastI ⟨18, (an : Int), b⟩ = L at *
  clear HIB
  go_wp2_with fail
  go_quiet (fail)
  have hq : Chg (fun _ => False) w (w.drewN nq) := (Chg.refl _ w).drewN nq
  have c0q : (w.drewN nq).cell? ⟨ib, 0, none⟩ = some (.int .i64 18) := c0
  have c1q : (w.drewN nq).cell? ⟨ib, 1, none⟩ = some (.int .i64 (an : Int)) := c1
  have d0q : (w.drewN nq).cell? ⟨bd, od + k, none⟩ = some (.int .i64 dk) := d0
  have o0q : (w.drewN nq).cell? ⟨bo, oo + k, none⟩ = some (.int .i64 ok_) := o0
  have daq : (w.drewN nq).cell? ⟨bd, od + an, none⟩ = some (.int .i64 1) := da1
  have oaq : (w.drewN nq).cell? ⟨bo, oo + an, none⟩ = some (.int .i64 (an : Int)) := oa1
  generalize w.drewN nq = w1 at *
  have HQ := hide hq
  clear hq
  go_wp2_with fail
  go_quiet ((go_at_call 17; exact Calls.quiet_of_same (qw (unhide HGO _))))
  go_wp2_with fail
  exact unhide HX _ _ _ _ _ _ _ _ _ _ _ _ _ _ _ _ _ _ _ _ _ _ _ _ _ _ _ _ _ _ _ _ _ _ _ _ _ _ _ _ _ _ _ _ _ _ _ _ _ _ _ _ _ _ _ _ _ _ _ _ _ _ _ _ _ _ _ _ _ _ _ _ _ _ _ _ _ _ _ _ _ _ _ _ _ _ _ _ _ _ _ _ _ _ _ _ _ _ _ _ _ _ _ _ _ _ _ _ _ _ _ _ _ _ _ _ _ _ _ _ _ _ _ _ _ _ _ _ _ _ _ _ _ _ _ _ _ _ _ _ _ _ _ _ ((unhide HQ).drewN _)
theorem fol_E (x0 x1 x2 x7 x8 x9 x10 x11 x12 x13 x14 x15 x16 x17 x18 x19 x20 x21 x22 x23 x24 x25 x26 x27 x28 x29 x30 x31 x32 x33 x34 x35 x36 x37 x38 x39 x40 x41 x42 x43 x44 x45 x46 x47 x48 x49 x50 x51 x52 x53 x54 x55 x56 x57 x58 x59 x60 x61 x62 x63 x64 x65 x66 x67 x68 x69 x70 x71 x72 x73 x74 x75 x76 x77 x78 x79 x80 x81 x82 x83 x84 x85 x86 x87 x88 x89 x90 x91 x92 x93 x94 x95 x96 x97 x98 x99 x100 x101 x102 x103 x104 x105 x106 x107 x108 x109 x110 x111 x112 x113 x114 x115 x116 x117 x118 x119 x120 x121 x122 x123 x124 x125 x126 x127 x128 x129 x130 x131 x132 x133 x134 x135 x136 x137 x138 x139 x140 x141 x142 x143 x144 x145 x146 x147 x148 x149 x150 x151 x152 x153 x154 x155 x156 x157 x158 x159 x160 x161 x162 x163 x164 x165 x166 x167 x168 x169 x170 x171 x172 x173 x174 x175 x176 x177 x178 x179 x180 x181 x182 x183 x184 x185 x186 x187 x188 x189 x190 x191 x192 x193 x194 x195 x196 x197 x198 x199 x200 x201 x202 x203 x204 x205 x206 x207 x208 x209 x210 x211 : Value) (w : World) (bd od cd bo oo co n k ib : Nat) (op a b dk ok_ : Int) (hib : Blk w ib 42 #[.int .i64 op, .int .i64 a, .int .i64 b]) (h0 : 0 ≤ op ∧ op ≤ 20) (ha : 0 ≤ a ∧ a ≤ 1048576) (hn : n ≤ 1000) (hk : k < n) (d0 : w.cell? ⟨bd, od + k, none⟩ = some (.int .i64 dk)) (o0 : w.cell? ⟨bo, oo + k, none⟩ = some (.int .i64 ok_)) (hL : leastI ⟨op, a, b⟩ ≤ dk) (hk1n : k + 1 < n) (dk1 : Int) (hdk1 : 0 ≤ dk1) (d1 : w.cell? ⟨bd, od + (k + 1), none⟩ = some (.int .i64 dk1)) (o1 : w.cell? ⟨bo, oo + (k + 1), none⟩ = some (.int .i64 ok_)) (an : Nat) (han : a = (an : Int)) (han2 : an < n) (da : Int) (hda : 0 ≤ da) (da1 : w.cell? ⟨bd, od + an, none⟩ = some (.int .i64 da)) (oa1 : w.cell? ⟨bo, oo + an, none⟩ = some (.int .i64 ok_)) (hop : op = 16 ∨ op = 17 ∨ op = 19 ∨ op = 20)
    (Q : Exit → Act → World → Prop) (hexit : ∀ (y7 y8 y71 y72 y73 y74 y75 y76 y77 y78 y79 y80 y81 y82 y83 y84 y85 y86 y87 y88 y89 y90 y91 y92 y93 y94 y95 y96 y97 y98 y99 y100 y101 y102 y103 y104 y105 y106 y107 y108 y109 y110 y111 y112 y113 y114 y115 y116 y117 y118 y119 y120 y121 y122 y123 y124 y125 y126 y127 y128 y129 y130 y131 y132 y133 y134 y135 y136 y137 y138 y139 y140 y141 y142 y143 y144 y145 y146 y147 y148 y149 y150 y151 y152 y153 y154 y155 y156 y157 y158 y159 y160 y161 y162 y163 y164 y165 y166 y167 y168 y169 y170 y171 y172 y173 y174 y175 y176 y177 y178 y179 y180 y181 y182 y183 y184 y185 y186 y187 y188 y189 y190 y191 y192 y193 y194 y195 y196 y197 y198 y199 y200 y201 y202 y203 y204 y205 y206 y207 y208 y209 y210 y211 : Value) (w' : World), Chg (fun _ => False) w w' → Q .normal ⟨#[x0, x1, x2, .slice (some ⟨bd, od, none⟩) n cd, .slice (some ⟨bo, oo, none⟩) n co, .int .i64 (k : Int), .pointer (some ⟨ib, 0, none⟩), y7, y8, x9, x10, x11, x12, x13, x14, x15, x16, x17, x18, x19, x20, x21, x22, x23, x24, x25, x26, x27, x28, x29, x30, x31, x32, x33, x34, x35, x36, x37, x38, x39, x40, x41, x42, x43, x44, x45, x46, x47, x48, x49, x50, x51, x52, x53, x54, x55, x56, x57, x58, x59, x60, x61, x62, x63, x64, x65, x66, x67, x68, x69, x70, y71, y72, y73, y74, y75, y76, y77, y78, y79, y80, y81, y82, y83, y84, y85, y86, y87, y88, y89, y90, y91, y92, y93, y94, y95, y96, y97, y98, y99, y100, y101, y102, y103, y104, y105, y106, y107, y108, y109, y110, y111, y112, y113, y114, y115, y116, y117, y118, y119, y120, y121, y122, y123, y124, y125, y126, y127, y128, y129, y130, y131, y132, y133, y134, y135, y136, y137, y138, y139, y140, y141, y142, y143, y144, y145, y146, y147, y148, y149, y150, y151, y152, y153, y154, y155, y156, y157, y158, y159, y160, y161, y162, y163, y164, y165, y166, y167, y168, y169, y170, y171, y172, y173, y174, y175, y176, y177, y178, y179, y180, y181, y182, y183, y184, y185, y186, y187, y188, y189, y190, y191, y192, y193, y194, y195, y196, y197, y198, y199, y200, y201, y202, y203, y204, y205, y206, y207, y208, y209, y210, y211], []⟩ w') :
    Code.wp Tryd.prog bodyC Q ⟨#[x0, x1, x2, .slice (some ⟨bd, od, none⟩) n cd, .slice (some ⟨bo, oo, none⟩) n co, .int .i64 (k : Int), .pointer (some ⟨ib, 0, none⟩), x7, x8, x9, x10, x11, x12, x13, x14, x15, x16, x17, x18, x19, x20, x21, x22, x23, x24, x25, x26, x27, x28, x29, x30, x31, x32, x33, x34, x35, x36, x37, x38, x39, x40, x41, x42, x43, x44, x45, x46, x47, x48, x49, x50, x51, x52, x53, x54, x55, x56, x57, x58, x59, x60, x61, x62, x63, x64, x65, x66, x67, x68, x69, x70, x71, x72, x73, x74, x75, x76, x77, x78, x79, x80, x81, x82, x83, x84, x85, x86, x87, x88, x89, x90, x91, x92, x93, x94, x95, x96, x97, x98, x99, x100, x101, x102, x103, x104, x105, x106, x107, x108, x109, x110, x111, x112, x113, x114, x115, x116, x117, x118, x119, x120, x121, x122, x123, x124, x125, x126, x127, x128, x129, x130, x131, x132, x133, x134, x135, x136, x137, x138, x139, x140, x141, x142, x143, x144, x145, x146, x147, x148, x149, x150, x151, x152, x153, x154, x155, x156, x157, x158, x159, x160, x161, x162, x163, x164, x165, x166, x167, x168, x169, x170, x171, x172, x173, x174, x175, x176, x177, x178, x179, x180, x181, x182, x183, x184, x185, x186, x187, x188, x189, x190, x191, x192, x193, x194, x195, x196, x197, x198, x199, x200, x201, x202, x203, x204, x205, x206, x207, x208, x209, x210, x211], []⟩ w := by
  have c0 := hib.cell 0
  have c1 := hib.cell 1
  have c2 := hib.cell 2
  simp only [List.getElem?_toArray, List.getElem?_cons_zero, List.getElem?_cons_succ] at c0 c1 c2
  have HIB := hide hib
  have HX := hide hexit
  have hd := decide_eq_false (Int.not_lt.2 hL)
  clear hexit hib hL
  have hw1 : IntKind.i64.wrap ((k : Int) + 1) = (k : Int) + 1 := IntWalk.i64_in _ (by omega)
  have hk1 : (0 : Int) ≤ (k : Int) + 1 := by omega
  have hk2 : (k : Int) + 1 < (n : Int) := by omega
  have hk3 : decide ((n : Int) ≤ (k : Int) + 1) = false := decide_eq_false (by omega)
  have hk4 : ((k : Int) + 1).toNat = k + 1 := by omega
  have hk5 : decide (dk1 < 0) = false := decide_eq_false (by omega)
  subst han
  have han3 : (an : Int) < (n : Int) := by omega
  have hda2 : decide (da < 0) = false := decide_eq_false (by omega)
  have e0 : (op != 0) = true := bne_iff_ne.2 (by omega)
  have e8 : (op != 8) = true := bne_iff_ne.2 (by omega)
  have e9 : (op != 9) = true := bne_iff_ne.2 (by omega)
  have e13 : (op != 13) = true := bne_iff_ne.2 (by omega)
  have e15 : (op != 15) = true := bne_iff_ne.2 (by omega)
  have e18 : (op != 18) = true := bne_iff_ne.2 (by omega)
  have e18' : (op == 18) = false := beq_eq_false_iff_ne.2 (by omega)
  have hgf : goesB op = true := decide_eq_true (by omega)
  have HGO := hide (fun W => refGoes_any op W)
  rw [hgf] at HGO
  conv => arg 2; whnf
  go_upto_block 2 with fail
  refine fol_least _ _ _ _ _ _ _ _ _ _ _ _ _ _ _ _ _ _ _ _ _ _ _ _ _ _ _ _ _ _ _ _ _ _ _ _ _ _ _ _ _ _ _ _ _ _ _ _ _ _ _ _ _ _ _ _ _ _ _ _ _ _ _ _ _ _ _ _ _ _ _ _ _ _ _ _ _ _ _ _ _ _ _ _ _ _ _ _ _ _ _ _ _ _ _ _ _ _ _ _ _ _ _ _ _ _ _ _ _ _ _ _ _ _ _ _ _ _ _ _ _ _ _ _ _ _ _ _ _ _ _ _ _ _ _ _ _ _ _ _ _ _ _ _ _ _ _ _ _ _ _ _ _ _ _ _ _ _ _ _ _ _ _ _ _ _ _ _ _ _ _ _ _ _ _ _ _ _ _ _ _ _ _ _ _ _ _ _ _ _ _ _ _ _ _ _ _ _ _ _ _ _ _ _ _ _ _ _ _ w ⟨op, (an : Int), b⟩ ib (unhide HIB) h0 ha _ ?_
  intro z73 z74 z75 z76 z77 z78 z79 z80 z81 z82 z83 z84 z85 z86 z87 z88 z89 z90 z91 z92 z93 z94 z95 z96 z97 z98 z99 z100 z101 z102 z103
  generalize leastI ⟨op, (an : Int), b⟩ = L at *
  clear HIB
  go_wp2_with fail
  go_quiet (fail)
  have hq : Chg (fun _ => False) w (w.drewN nq) := (Chg.refl _ w).drewN nq
  have c0q : (w.drewN nq).cell? ⟨ib, 0, none⟩ = some (.int .i64 op) := c0
  have c1q : (w.drewN nq).cell? ⟨ib, 1, none⟩ = some (.int .i64 (an : Int)) := c1
  have d0q : (w.drewN nq).cell? ⟨bd, od + k, none⟩ = some (.int .i64 dk) := d0
  have o0q : (w.drewN nq).cell? ⟨bo, oo + k, none⟩ = some (.int .i64 ok_) := o0
  have daq : (w.drewN nq).cell? ⟨bd, od + an, none⟩ = some (.int .i64 da) := da1
  have oaq : (w.drewN nq).cell? ⟨bo, oo + an, none⟩ = some (.int .i64 ok_) := oa1
  generalize w.drewN nq = w1 at *
  have HQ := hide hq
  clear hq
  go_wp2_with fail
  go_quiet ((go_at_call 17; exact Calls.quiet_of_same (qw (unhide HGO _))))
  go_wp2_with fail
  exact unhide HX _ _ _ _ _ _ _ _ _ _ _ _ _ _ _ _ _ _ _ _ _ _ _ _ _ _ _ _ _ _ _ _ _ _ _ _ _ _ _ _ _ _ _ _ _ _ _ _ _ _ _ _ _ _ _ _ _ _ _ _ _ _ _ _ _ _ _ _ _ _ _ _ _ _ _ _ _ _ _ _ _ _ _ _ _ _ _ _ _ _ _ _ _ _ _ _ _ _ _ _ _ _ _ _ _ _ _ _ _ _ _ _ _ _ _ _ _ _ _ _ _ _ _ _ _ _ _ _ _ _ _ _ _ _ _ _ _ _ _ _ _ _ _ _ ((unhide HQ).drewN _)
end Go.Proofs.YtejkaalhjocmgaaDoor

namespace Go.Proofs.YtejkaalhjocmgaaDoor
open Go.RowKit
set_option maxHeartbeats 2000000
set_option maxRecDepth 1000000
theorem fol_rest (x0 x2 x5 x6 x7 x8 x9 x10 x11 x12 x13 x14 x15 x16 x17 x18 x19 x20 x21 x22 x23 x24 x25 x26 x27 x28 x29 x30 x31 x32 x33 x34 x35 x36 x37 x38 x39 x40 x41 x42 x43 x44 x45 x46 x47 x48 x49 x50 x51 x52 x53 x54 x55 x56 x57 x58 x59 x60 x61 x62 x63 x64 x65 x66 x67 x68 x69 x70 x71 x72 x73 x74 x75 x76 x77 x78 x79 x80 x81 x82 x83 x84 x85 x86 x87 x88 x89 x90 x91 x92 x93 x94 x95 x96 x97 x98 x99 x100 x101 x102 x103 x104 x105 x106 x107 x108 x109 x110 x111 x112 x113 x114 x115 x116 x117 x118 x119 x120 x121 x122 x123 x124 x125 x126 x127 x128 x129 x130 x131 x132 x133 x134 x135 x136 x137 x138 x139 x140 x141 x142 x143 x144 x145 x146 x147 x148 x149 x150 x151 x152 x153 x154 x155 x156 x157 x158 x159 x160 x161 x162 x163 x164 x165 x166 x167 x168 x169 x170 x171 x172 x173 x174 x175 x176 x177 x178 x179 x180 x181 x182 x183 x184 x185 x186 x187 x188 x189 x190 x191 x192 x193 x194 x195 x196 x197 x198 x199 x200 x201 x202 x203 x204 x205 x206 x207 x208 x209 x210 x211 : Value) (m : Im) (pA cA : Option Addr) (pc cc bx cd co : Nat) (Ad Ao : Option Addr) (T : Nat → Prop) (w0 w : World) (h0 : Chg (fun _ => False) w0 w) (hbx : Blk w bx 25 #[.slice pA m.pool.length pc, .slice cA m.code.length cc]) (hc : Rd T w cA (m.code.flatMap insv)) (hd : RdI (fun _ => True) w (.slice Ad m.code.length cd) ((List.range m.code.length).map (depAt m))) (ho : RdI (fun _ => True) w (.slice Ao m.code.length co) ((List.range m.code.length).map (ownAt m))) (hg : Good conB m) (ok : CodeOk m) (hn : m.code.length ≤ 120) :
    Code.wp Tryd.prog folC (bodyPost Tryd.prog Tryd.f5 fun e w' => e = .returned (.bool true) ∧ Chg (fun _ => False) w0 w') ⟨#[x0, .pointer (some ⟨bx, 0, none⟩), x2, .slice Ad m.code.length cd, .slice Ao m.code.length co, x5, x6, x7, x8, x9, x10, x11, x12, x13, x14, x15, x16, x17, x18, x19, x20, x21, x22, x23, x24, x25, x26, x27, x28, x29, x30, x31, x32, x33, x34, x35, x36, x37, x38, x39, x40, x41, x42, x43, x44, x45, x46, x47, x48, x49, x50, x51, x52, x53, x54, x55, x56, x57, x58, x59, x60, x61, x62, x63, x64, x65, x66, x67, x68, x69, x70, x71, x72, x73, x74, x75, x76, x77, x78, x79, x80, x81, x82, x83, x84, x85, x86, x87, x88, x89, x90, x91, x92, x93, x94, x95, x96, x97, x98, x99, x100, x101, x102, x103, x104, x105, x106, x107, x108, x109, x110, x111, x112, x113, x114, x115, x116, x117, x118, x119, x120, x121, x122, x123, x124, x125, x126, x127, x128, x129, x130, x131, x132, x133, x134, x135, x136, x137, x138, x139, x140, x141, x142, x143, x144, x145, x146, x147, x148, x149, x150, x151, x152, x153, x154, x155, x156, x157, x158, x159, x160, x161, x162, x163, x164, x165, x166, x167, x168, x169, x170, x171, x172, x173, x174, x175, x176, x177, x178, x179, x180, x181, x182, x183, x184, x185, x186, x187, x188, x189, x190, x191, x192, x193, x194, x195, x196, x197, x198, x199, x200, x201, x202, x203, x204, x205, x206, x207, x208, x209, x210, x211], []⟩ w := by
  have hpos := hg.pos
  have hne : (List.range m.code.length).map (depAt m) ≠ [] := fun e => by have := congrArg List.length e; rw [List.length_map, List.length_range, List.length_nil] at this; omega
  have hne2 : (List.range m.code.length).map (ownAt m) ≠ [] := fun e => by have := congrArg List.length e; rw [List.length_map, List.length_range, List.length_nil] at this; omega
  obtain ⟨bd, od, hAd, hcd⟩ := tell_cells hd hne
  obtain ⟨bo, oo, hAo, hco⟩ := tell_cells ho hne2
  subst hAd hAo
  obtain ⟨bc, oc, hcA, _, hic⟩ := code_at hc (by intro e; rw [e] at hpos; simp at hpos)
  subst hcA
  have d00 := hcd 0 hpos
  have o00 := hco 0 hpos
  rw [depAt_some hg Reach.base, Nat.add_zero] at d00
  rw [ownAt_some hg Reach.base, Nat.add_zero] at o00
  have x0 := hbx.cell 0
  have x1 := hbx.cell 1
  simp only [List.getElem?_toArray, List.getElem?_cons_zero, List.getElem?_cons_succ] at x0 x1
  have H0 := hide h0
  have HBX := hide hbx
  have HIC := hide hic
  have HCD := hide hcd
  have HCO := hide hco
  have HG := hide hg
  have HOK := hide ok
  clear h0 hbx hc hd ho hg ok hne hne2 hic hcd hco
  have HNN := hide (fun k h => depAt_none (m := m) (k := k) h)
  obtain ⟨n, hnn⟩ : ∃ n, m.code.length = n := ⟨_, rfl⟩
  have HN := hide hnn
  rw [hnn] at hpos hn x1 ⊢
  clear hnn
  conv => arg 2; whnf
  go_wp2_with fail
  go_loopw [5] (fun i wr => ∃ k : Nat, i = .int .i64 k ∧ k ≤ n ∧ Chg (fun _ => False) w wr) (fun i _ => n - (intOf i).toNat)
  case atStart => exact ⟨0, rfl, Nat.zero_le _, Chg.refl _ _⟩
  case round =>
    obtain ⟨wq, rfl⟩ : ∃ wq : World, wq = wr := ⟨_, rfl⟩
    obtain ⟨k, rfl, hk, hch⟩ := hrel
    by_cases hlt : k < n
    · have hbq := (unhide HBX).chg hch id
      have y0 := hbq.cell 0
      have y1 := hbq.cell 1
      simp only [List.getElem?_toArray, List.getElem?_cons_zero, List.getElem?_cons_succ] at y0 y1
      rw [unhide HN] at y1
      have hins : m.code[k]? = some (insAt m k) := by
        unfold insAt
        rw [List.getD_eq_getElem?_getD, List.getElem?_eq_getElem (by have := unhide HN; omega)]
        rfl
      obtain ⟨i0, i1, i2⟩ := (unhide HIC) k _ hins
      have q0 := (hch.cell (hat_lt i0) id).trans i0
      have q1 := (hch.cell (hat_lt i1) id).trans i1
      have q2 := (hch.cell (hat_lt i2) id).trans i2
      have d0 := (unhide HCD) k (by have := unhide HN; omega)
      have o0 := (unhide HCO) k (by have := unhide HN; omega)
      have d0 := (hch.cell (hat_lt d0) id).trans d0
      have o0 := (hch.cell (hat_lt o0) id).trans o0
      have HCH := hide hch
      have hcl := hat_lt q0
      have hdl := hat_lt d0
      have hol := hat_lt o0
      by_cases hr : ∃ s, Reach conB m k s
      · obtain ⟨s, hs⟩ := hr
        obtain ⟨f0, f1, f2, f3⟩ := follows (unhide HG) (unhide HOK) hs
        obtain ⟨h0, h20, ha0, ha1, hb0, _, hag⟩ := insAt_ok (unhide HOK) (show k < m.code.length by have := unhide HN; omega)
        rw [depAt_some (unhide HG) hs] at d0
        rw [ownAt_some (unhide HG) hs] at o0
        have hal := (Chg.refl (fun _ => False) wq).alloc (.cells #[.int .i64 (insAt m k).op, .int .i64 (insAt m k).a, .int .i64 (insAt m k).b] 42)
        have hib := Blk.new wq 42 #[.int .i64 (insAt m k).op, .int .i64 (insAt m k).a, .int .i64 (insAt m k).b]
        have hcell : ∀ {p : Addr} {v : Value}, w.cell? p = some v → (wq.alloc (.cells #[.int .i64 (insAt m k).op, .int .i64 (insAt m k).a, .int .i64 (insAt m k).b] 42)).cell? p = some v := fun h => (((unhide HCH).trans' hal).cell (World.block_lt_of_cell? _ _ h) id).trans h
        have hGo : (insAt m k).op ≠ 0 ∧ (insAt m k).op ≠ 8 ∧ (insAt m k).op ≠ 9 ∧ (insAt m k).op ≠ 13 ∧ (insAt m k).op ≠ 15 → k + 1 < n ∧ ∃ dk1 : Int, 0 ≤ dk1 ∧ (wq.alloc (.cells #[.int .i64 (insAt m k).op, .int .i64 (insAt m k).a, .int .i64 (insAt m k).b] 42)).cell? ⟨bd, od + (k + 1), none⟩ = some (.int .i64 dk1) ∧ (wq.alloc (.cells #[.int .i64 (insAt m k).op, .int .i64 (insAt m k).a, .int .i64 (insAt m k).b] 42)).cell? ⟨bo, oo + (k + 1), none⟩ = some (.int .i64 s.of) := fun hgo => by
          obtain ⟨e1, s1, e2, e3⟩ := f2 hgo
          have e4 := (unhide HCD) (k + 1) e1
          have e5 := (unhide HCO) (k + 1) e1
          rw [depAt_some (unhide HG) e2] at e4
          rw [ownAt_some (unhide HG) e2, e3] at e5
          exact ⟨by have := unhide HN; omega, s1.height, (follows (unhide HG) (unhide HOK) e2).1, hcell e4, hcell e5⟩
        have hTh : 15 ≤ (insAt m k).op → ∃ (an : Nat) (da oa : Int), (insAt m k).a = (an : Int) ∧ an < n ∧ 0 ≤ da ∧ (wq.alloc (.cells #[.int .i64 (insAt m k).op, .int .i64 (insAt m k).a, .int .i64 (insAt m k).b] 42)).cell? ⟨bd, od + an, none⟩ = some (.int .i64 da) ∧ (wq.alloc (.cells #[.int .i64 (insAt m k).op, .int .i64 (insAt m k).a, .int .i64 (insAt m k).b] 42)).cell? ⟨bo, oo + an, none⟩ = some (.int .i64 oa) ∧ ((insAt m k).op ≠ 18 → oa = s.of) ∧ ((insAt m k).op = 18 → oa = (an : Int) ∧ da = 1) := fun h15 => by
          obtain ⟨s2, e2, e3, e4⟩ := f3 h15
          have hl := hag h15
          have e1 : (insAt m k).a.toNat < m.code.length := by omega
          have e5 := (unhide HCD) _ e1
          have e6 := (unhide HCO) _ e1
          rw [depAt_some (unhide HG) e2] at e5
          rw [ownAt_some (unhide HG) e2] at e6
          have e7 : ((insAt m k).a.toNat : Int) = (insAt m k).a := Int.toNat_of_nonneg ha0
          exact ⟨(insAt m k).a.toNat, s2.height, s2.of, e7.symm, by have := unhide HN; omega, (follows (unhide HG) (unhide HOK) e2).1, hcell e5, hcell e6, e3, fun e => by rw [e7]; exact e4 e⟩
        have d0' := hcell ((unhide HCD) k (by have := unhide HN; omega))
        have o0' := hcell ((unhide HCO) k (by have := unhide HN; omega))
        rw [depAt_some (unhide HG) hs] at d0'
        rw [ownAt_some (unhide HG) hs] at o0'
        have D0 := hide d0'
        have O0 := hide o0'
        have HIB := hide hib
        have HGO := hide hGo
        have HTH := hide hTh
        have hdn : decide (s.height < 0) = false := decide_eq_false (by omega)
        have HLE := hide f1
        have hop : 0 ≤ (insAt m k).op ∧ (insAt m k).op ≤ 20 := ⟨h0, h20⟩
        have hab : 0 ≤ (insAt m k).a ∧ (insAt m k).a ≤ 1048576 := ⟨ha0, ha1⟩
        have HINS := hide (show insAt m k = ⟨(insAt m k).op, (insAt m k).a, (insAt m k).b⟩ from rfl)
        have HL2 := hide (show leastI ⟨(insAt m k).op, (insAt m k).a, (insAt m k).b⟩ ≤ s.height from f1)
        clear f1 f2 f3 h0 h20 ha0 ha1 hb0 hag hib hcell hGo hTh d0' o0' hs hins i0 i1 i2 hch hbq hal HINS HLE
        generalize (insAt m k).op = op at *
        generalize (insAt m k).a = a at *
        generalize (insAt m k).b = b at *
        go_upto_region 10 with fail
        rename_i K2 hK2 K1 hK1
        have HK := hide hK2
        clear hK2
        go_wp2_with fail
        refine unhide HK _ _ ?_
        clear HK
        by_cases hgo : op ≠ 0 ∧ op ≠ 8 ∧ op ≠ 9 ∧ op ≠ 13 ∧ op ≠ 15
        · obtain ⟨g1, dk1, g2, g3, g4⟩ := unhide HGO hgo
          by_cases h15 : 15 ≤ op
          · obtain ⟨an, da, oa, t1, t2, t3, t4, t5, t6, t7⟩ := unhide HTH h15
            by_cases h18 : op = 18
            · obtain ⟨rfl, rfl⟩ := t7 h18
              refine fol_n18 _ _ _ _ _ _ _ _ _ _ _ _ _ _ _ _ _ _ _ _ _ _ _ _ _ _ _ _ _ _ _ _ _ _ _ _ _ _ _ _ _ _ _ _ _ _ _ _ _ _ _ _ _ _ _ _ _ _ _ _ _ _ _ _ _ _ _ _ _ _ _ _ _ _ _ _ _ _ _ _ _ _ _ _ _ _ _ _ _ _ _ _ _ _ _ _ _ _ _ _ _ _ _ _ _ _ _ _ _ _ _ _ _ _ _ _ _ _ _ _ _ _ _ _ _ _ _ _ _ _ _ _ _ _ _ _ _ _ _ _ _ _ _ _ _ _ _ _ _ _ _ _ _ _ _ _ _ _ _ _ _ _ _ _ _ _ _ _ _ _ _ _ _ _ _ _ _ _ _ _ _ _ _ _ _ _ _ _ _ _ _ _ _ _ _ _ _ _ _ _ _ _ _ _ _ _ _ _ (wq.alloc _) bd od cd bo oo co n k _ op a b s.height s.of (unhide HIB) hop hab (by omega) hlt (unhide D0) (unhide O0) (unhide HL2) g1 dk1 g2 g3 g4 an t1 t2 t4 t5 h18 _ ?_
              intro y7 y8 y71 y72 y73 y74 y75 y76 y77 y78 y79 y80 y81 y82 y83 y84 y85 y86 y87 y88 y89 y90 y91 y92 y93 y94 y95 y96 y97 y98 y99 y100 y101 y102 y103 y104 y105 y106 y107 y108 y109 y110 y111 y112 y113 y114 y115 y116 y117 y118 y119 y120 y121 y122 y123 y124 y125 y126 y127 y128 y129 y130 y131 y132 y133 y134 y135 y136 y137 y138 y139 y140 y141 y142 y143 y144 y145 y146 y147 y148 y149 y150 y151 y152 y153 y154 y155 y156 y157 y158 y159 y160 y161 y162 y163 y164 y165 y166 y167 y168 y169 y170 y171 y172 y173 y174 y175 y176 y177 y178 y179 y180 y181 y182 y183 y184 y185 y186 y187 y188 y189 y190 y191 y192 y193 y194 y195 y196 y197 y198 y199 y200 y201 y202 y203 y204 y205 y206 y207 y208 y209 y210 y211 w' hcw
              have HCW := hide hcw
              clear hcw
              go_wp2_with fail
              go_roundw
              case rel => exact ⟨k + 1, by go_num, by omega, ((unhide HCH).alloc _).trans' (unhide HCW)⟩
              case measure => simp [intOf]; omega
            · rw [t6 h18] at t5
              refine fol_E _ _ _ _ _ _ _ _ _ _ _ _ _ _ _ _ _ _ _ _ _ _ _ _ _ _ _ _ _ _ _ _ _ _ _ _ _ _ _ _ _ _ _ _ _ _ _ _ _ _ _ _ _ _ _ _ _ _ _ _ _ _ _ _ _ _ _ _ _ _ _ _ _ _ _ _ _ _ _ _ _ _ _ _ _ _ _ _ _ _ _ _ _ _ _ _ _ _ _ _ _ _ _ _ _ _ _ _ _ _ _ _ _ _ _ _ _ _ _ _ _ _ _ _ _ _ _ _ _ _ _ _ _ _ _ _ _ _ _ _ _ _ _ _ _ _ _ _ _ _ _ _ _ _ _ _ _ _ _ _ _ _ _ _ _ _ _ _ _ _ _ _ _ _ _ _ _ _ _ _ _ _ _ _ _ _ _ _ _ _ _ _ _ _ _ _ _ _ _ _ _ _ _ _ _ _ _ _ (wq.alloc _) bd od cd bo oo co n k _ op a b s.height s.of (unhide HIB) hop hab (by omega) hlt (unhide D0) (unhide O0) (unhide HL2) g1 dk1 g2 g3 g4 an t1 t2 da t3 t4 t5 (by omega) _ ?_
              intro y7 y8 y71 y72 y73 y74 y75 y76 y77 y78 y79 y80 y81 y82 y83 y84 y85 y86 y87 y88 y89 y90 y91 y92 y93 y94 y95 y96 y97 y98 y99 y100 y101 y102 y103 y104 y105 y106 y107 y108 y109 y110 y111 y112 y113 y114 y115 y116 y117 y118 y119 y120 y121 y122 y123 y124 y125 y126 y127 y128 y129 y130 y131 y132 y133 y134 y135 y136 y137 y138 y139 y140 y141 y142 y143 y144 y145 y146 y147 y148 y149 y150 y151 y152 y153 y154 y155 y156 y157 y158 y159 y160 y161 y162 y163 y164 y165 y166 y167 y168 y169 y170 y171 y172 y173 y174 y175 y176 y177 y178 y179 y180 y181 y182 y183 y184 y185 y186 y187 y188 y189 y190 y191 y192 y193 y194 y195 y196 y197 y198 y199 y200 y201 y202 y203 y204 y205 y206 y207 y208 y209 y210 y211 w' hcw
              have HCW := hide hcw
              clear hcw
              go_wp2_with fail
              go_roundw
              case rel => exact ⟨k + 1, by go_num, by omega, ((unhide HCH).alloc _).trans' (unhide HCW)⟩
              case measure => simp [intOf]; omega
          · refine fol_C _ _ _ _ _ _ _ _ _ _ _ _ _ _ _ _ _ _ _ _ _ _ _ _ _ _ _ _ _ _ _ _ _ _ _ _ _ _ _ _ _ _ _ _ _ _ _ _ _ _ _ _ _ _ _ _ _ _ _ _ _ _ _ _ _ _ _ _ _ _ _ _ _ _ _ _ _ _ _ _ _ _ _ _ _ _ _ _ _ _ _ _ _ _ _ _ _ _ _ _ _ _ _ _ _ _ _ _ _ _ _ _ _ _ _ _ _ _ _ _ _ _ _ _ _ _ _ _ _ _ _ _ _ _ _ _ _ _ _ _ _ _ _ _ _ _ _ _ _ _ _ _ _ _ _ _ _ _ _ _ _ _ _ _ _ _ _ _ _ _ _ _ _ _ _ _ _ _ _ _ _ _ _ _ _ _ _ _ _ _ _ _ _ _ _ _ _ _ _ _ _ _ _ _ _ _ _ _ (wq.alloc _) bd od cd bo oo co n k _ op a b s.height s.of (unhide HIB) hop hab (by omega) hlt (unhide D0) (unhide O0) (unhide HL2) g1 dk1 g2 g3 g4 (by omega) _ ?_
            intro y7 y8 y71 y72 y73 y74 y75 y76 y77 y78 y79 y80 y81 y82 y83 y84 y85 y86 y87 y88 y89 y90 y91 y92 y93 y94 y95 y96 y97 y98 y99 y100 y101 y102 y103 y104 y105 y106 y107 y108 y109 y110 y111 y112 y113 y114 y115 y116 y117 y118 y119 y120 y121 y122 y123 y124 y125 y126 y127 y128 y129 y130 y131 y132 y133 y134 y135 y136 y137 y138 y139 y140 y141 y142 y143 y144 y145 y146 y147 y148 y149 y150 y151 y152 y153 y154 y155 y156 y157 y158 y159 y160 y161 y162 y163 y164 y165 y166 y167 y168 y169 y170 y171 y172 y173 y174 y175 y176 y177 y178 y179 y180 y181 y182 y183 y184 y185 y186 y187 y188 y189 y190 y191 y192 y193 y194 y195 y196 y197 y198 y199 y200 y201 y202 y203 y204 y205 y206 y207 y208 y209 y210 y211 w' hcw
            have HCW := hide hcw
            clear hcw
            go_wp2_with fail
            go_roundw
            case rel => exact ⟨k + 1, by go_num, by omega, ((unhide HCH).alloc _).trans' (unhide HCW)⟩
            case measure => simp [intOf]; omega
        · by_cases h15 : op = 15
          · obtain ⟨an, da, oa, t1, t2, t3, t4, t5, t6, t7⟩ := unhide HTH (by omega)
            rw [t6 (by omega)] at t5
            refine fol_n15 _ _ _ _ _ _ _ _ _ _ _ _ _ _ _ _ _ _ _ _ _ _ _ _ _ _ _ _ _ _ _ _ _ _ _ _ _ _ _ _ _ _ _ _ _ _ _ _ _ _ _ _ _ _ _ _ _ _ _ _ _ _ _ _ _ _ _ _ _ _ _ _ _ _ _ _ _ _ _ _ _ _ _ _ _ _ _ _ _ _ _ _ _ _ _ _ _ _ _ _ _ _ _ _ _ _ _ _ _ _ _ _ _ _ _ _ _ _ _ _ _ _ _ _ _ _ _ _ _ _ _ _ _ _ _ _ _ _ _ _ _ _ _ _ _ _ _ _ _ _ _ _ _ _ _ _ _ _ _ _ _ _ _ _ _ _ _ _ _ _ _ _ _ _ _ _ _ _ _ _ _ _ _ _ _ _ _ _ _ _ _ _ _ _ _ _ _ _ _ _ _ _ _ _ _ _ _ _ (wq.alloc _) bd od cd bo oo co n k _ op a b s.height s.of (unhide HIB) hop hab (by omega) hlt (unhide D0) (unhide O0) (unhide HL2) an t1 t2 da t3 t4 t5 h15 _ ?_
            intro y7 y8 y71 y72 y73 y74 y75 y76 y77 y78 y79 y80 y81 y82 y83 y84 y85 y86 y87 y88 y89 y90 y91 y92 y93 y94 y95 y96 y97 y98 y99 y100 y101 y102 y103 y104 y105 y106 y107 y108 y109 y110 y111 y112 y113 y114 y115 y116 y117 y118 y119 y120 y121 y122 y123 y124 y125 y126 y127 y128 y129 y130 y131 y132 y133 y134 y135 y136 y137 y138 y139 y140 y141 y142 y143 y144 y145 y146 y147 y148 y149 y150 y151 y152 y153 y154 y155 y156 y157 y158 y159 y160 y161 y162 y163 y164 y165 y166 y167 y168 y169 y170 y171 y172 y173 y174 y175 y176 y177 y178 y179 y180 y181 y182 y183 y184 y185 y186 y187 y188 y189 y190 y191 y192 y193 y194 y195 y196 y197 y198 y199 y200 y201 y202 y203 y204 y205 y206 y207 y208 y209 y210 y211 w' hcw
            have HCW := hide hcw
            clear hcw
            go_wp2_with fail
            go_roundw
            case rel => exact ⟨k + 1, by go_num, by omega, ((unhide HCH).alloc _).trans' (unhide HCW)⟩
            case measure => simp [intOf]; omega
          · have h4 : op = 0 ∨ op = 8 ∨ op = 9 ∨ op = 13 := by omega
            rcases h4 with h4 | h4 | h4 | h4
            · refine fol_n0 _ _ _ _ _ _ _ _ _ _ _ _ _ _ _ _ _ _ _ _ _ _ _ _ _ _ _ _ _ _ _ _ _ _ _ _ _ _ _ _ _ _ _ _ _ _ _ _ _ _ _ _ _ _ _ _ _ _ _ _ _ _ _ _ _ _ _ _ _ _ _ _ _ _ _ _ _ _ _ _ _ _ _ _ _ _ _ _ _ _ _ _ _ _ _ _ _ _ _ _ _ _ _ _ _ _ _ _ _ _ _ _ _ _ _ _ _ _ _ _ _ _ _ _ _ _ _ _ _ _ _ _ _ _ _ _ _ _ _ _ _ _ _ _ _ _ _ _ _ _ _ _ _ _ _ _ _ _ _ _ _ _ _ _ _ _ _ _ _ _ _ _ _ _ _ _ _ _ _ _ _ _ _ _ _ _ _ _ _ _ _ _ _ _ _ _ _ _ _ _ _ _ _ _ _ _ _ _ (wq.alloc _) bd od cd bo oo co n k _ op a b s.height s.of (unhide HIB) hop hab (by omega) hlt (unhide D0) (unhide O0) (unhide HL2) h4 _ ?_
              intro y7 y8 y71 y72 y73 y74 y75 y76 y77 y78 y79 y80 y81 y82 y83 y84 y85 y86 y87 y88 y89 y90 y91 y92 y93 y94 y95 y96 y97 y98 y99 y100 y101 y102 y103 y104 y105 y106 y107 y108 y109 y110 y111 y112 y113 y114 y115 y116 y117 y118 y119 y120 y121 y122 y123 y124 y125 y126 y127 y128 y129 y130 y131 y132 y133 y134 y135 y136 y137 y138 y139 y140 y141 y142 y143 y144 y145 y146 y147 y148 y149 y150 y151 y152 y153 y154 y155 y156 y157 y158 y159 y160 y161 y162 y163 y164 y165 y166 y167 y168 y169 y170 y171 y172 y173 y174 y175 y176 y177 y178 y179 y180 y181 y182 y183 y184 y185 y186 y187 y188 y189 y190 y191 y192 y193 y194 y195 y196 y197 y198 y199 y200 y201 y202 y203 y204 y205 y206 y207 y208 y209 y210 y211 w' hcw
              have HCW := hide hcw
              clear hcw
              go_wp2_with fail
              go_roundw
              case rel => exact ⟨k + 1, by go_num, by omega, ((unhide HCH).alloc _).trans' (unhide HCW)⟩
              case measure => simp [intOf]; omega
            · refine fol_n8 _ _ _ _ _ _ _ _ _ _ _ _ _ _ _ _ _ _ _ _ _ _ _ _ _ _ _ _ _ _ _ _ _ _ _ _ _ _ _ _ _ _ _ _ _ _ _ _ _ _ _ _ _ _ _ _ _ _ _ _ _ _ _ _ _ _ _ _ _ _ _ _ _ _ _ _ _ _ _ _ _ _ _ _ _ _ _ _ _ _ _ _ _ _ _ _ _ _ _ _ _ _ _ _ _ _ _ _ _ _ _ _ _ _ _ _ _ _ _ _ _ _ _ _ _ _ _ _ _ _ _ _ _ _ _ _ _ _ _ _ _ _ _ _ _ _ _ _ _ _ _ _ _ _ _ _ _ _ _ _ _ _ _ _ _ _ _ _ _ _ _ _ _ _ _ _ _ _ _ _ _ _ _ _ _ _ _ _ _ _ _ _ _ _ _ _ _ _ _ _ _ _ _ _ _ _ _ _ (wq.alloc _) bd od cd bo oo co n k _ op a b s.height s.of (unhide HIB) hop hab (by omega) hlt (unhide D0) (unhide O0) (unhide HL2) h4 _ ?_
              intro y7 y8 y71 y72 y73 y74 y75 y76 y77 y78 y79 y80 y81 y82 y83 y84 y85 y86 y87 y88 y89 y90 y91 y92 y93 y94 y95 y96 y97 y98 y99 y100 y101 y102 y103 y104 y105 y106 y107 y108 y109 y110 y111 y112 y113 y114 y115 y116 y117 y118 y119 y120 y121 y122 y123 y124 y125 y126 y127 y128 y129 y130 y131 y132 y133 y134 y135 y136 y137 y138 y139 y140 y141 y142 y143 y144 y145 y146 y147 y148 y149 y150 y151 y152 y153 y154 y155 y156 y157 y158 y159 y160 y161 y162 y163 y164 y165 y166 y167 y168 y169 y170 y171 y172 y173 y174 y175 y176 y177 y178 y179 y180 y181 y182 y183 y184 y185 y186 y187 y188 y189 y190 y191 y192 y193 y194 y195 y196 y197 y198 y199 y200 y201 y202 y203 y204 y205 y206 y207 y208 y209 y210 y211 w' hcw
              have HCW := hide hcw
              clear hcw
              go_wp2_with fail
              go_roundw
              case rel => exact ⟨k + 1, by go_num, by omega, ((unhide HCH).alloc _).trans' (unhide HCW)⟩
              case measure => simp [intOf]; omega
            · refine fol_n9 _ _ _ _ _ _ _ _ _ _ _ _ _ _ _ _ _ _ _ _ _ _ _ _ _ _ _ _ _ _ _ _ _ _ _ _ _ _ _ _ _ _ _ _ _ _ _ _ _ _ _ _ _ _ _ _ _ _ _ _ _ _ _ _ _ _ _ _ _ _ _ _ _ _ _ _ _ _ _ _ _ _ _ _ _ _ _ _ _ _ _ _ _ _ _ _ _ _ _ _ _ _ _ _ _ _ _ _ _ _ _ _ _ _ _ _ _ _ _ _ _ _ _ _ _ _ _ _ _ _ _ _ _ _ _ _ _ _ _ _ _ _ _ _ _ _ _ _ _ _ _ _ _ _ _ _ _ _ _ _ _ _ _ _ _ _ _ _ _ _ _ _ _ _ _ _ _ _ _ _ _ _ _ _ _ _ _ _ _ _ _ _ _ _ _ _ _ _ _ _ _ _ _ _ _ _ _ _ (wq.alloc _) bd od cd bo oo co n k _ op a b s.height s.of (unhide HIB) hop hab (by omega) hlt (unhide D0) (unhide O0) (unhide HL2) h4 _ ?_
              intro y7 y8 y71 y72 y73 y74 y75 y76 y77 y78 y79 y80 y81 y82 y83 y84 y85 y86 y87 y88 y89 y90 y91 y92 y93 y94 y95 y96 y97 y98 y99 y100 y101 y102 y103 y104 y105 y106 y107 y108 y109 y110 y111 y112 y113 y114 y115 y116 y117 y118 y119 y120 y121 y122 y123 y124 y125 y126 y127 y128 y129 y130 y131 y132 y133 y134 y135 y136 y137 y138 y139 y140 y141 y142 y143 y144 y145 y146 y147 y148 y149 y150 y151 y152 y153 y154 y155 y156 y157 y158 y159 y160 y161 y162 y163 y164 y165 y166 y167 y168 y169 y170 y171 y172 y173 y174 y175 y176 y177 y178 y179 y180 y181 y182 y183 y184 y185 y186 y187 y188 y189 y190 y191 y192 y193 y194 y195 y196 y197 y198 y199 y200 y201 y202 y203 y204 y205 y206 y207 y208 y209 y210 y211 w' hcw
              have HCW := hide hcw
              clear hcw
              go_wp2_with fail
              go_roundw
              case rel => exact ⟨k + 1, by go_num, by omega, ((unhide HCH).alloc _).trans' (unhide HCW)⟩
              case measure => simp [intOf]; omega
            · refine fol_n13 _ _ _ _ _ _ _ _ _ _ _ _ _ _ _ _ _ _ _ _ _ _ _ _ _ _ _ _ _ _ _ _ _ _ _ _ _ _ _ _ _ _ _ _ _ _ _ _ _ _ _ _ _ _ _ _ _ _ _ _ _ _ _ _ _ _ _ _ _ _ _ _ _ _ _ _ _ _ _ _ _ _ _ _ _ _ _ _ _ _ _ _ _ _ _ _ _ _ _ _ _ _ _ _ _ _ _ _ _ _ _ _ _ _ _ _ _ _ _ _ _ _ _ _ _ _ _ _ _ _ _ _ _ _ _ _ _ _ _ _ _ _ _ _ _ _ _ _ _ _ _ _ _ _ _ _ _ _ _ _ _ _ _ _ _ _ _ _ _ _ _ _ _ _ _ _ _ _ _ _ _ _ _ _ _ _ _ _ _ _ _ _ _ _ _ _ _ _ _ _ _ _ _ _ _ _ _ _ (wq.alloc _) bd od cd bo oo co n k _ op a b s.height s.of (unhide HIB) hop hab (by omega) hlt (unhide D0) (unhide O0) (unhide HL2) h4 _ ?_
              intro y7 y8 y71 y72 y73 y74 y75 y76 y77 y78 y79 y80 y81 y82 y83 y84 y85 y86 y87 y88 y89 y90 y91 y92 y93 y94 y95 y96 y97 y98 y99 y100 y101 y102 y103 y104 y105 y106 y107 y108 y109 y110 y111 y112 y113 y114 y115 y116 y117 y118 y119 y120 y121 y122 y123 y124 y125 y126 y127 y128 y129 y130 y131 y132 y133 y134 y135 y136 y137 y138 y139 y140 y141 y142 y143 y144 y145 y146 y147 y148 y149 y150 y151 y152 y153 y154 y155 y156 y157 y158 y159 y160 y161 y162 y163 y164 y165 y166 y167 y168 y169 y170 y171 y172 y173 y174 y175 y176 y177 y178 y179 y180 y181 y182 y183 y184 y185 y186 y187 y188 y189 y190 y191 y192 y193 y194 y195 y196 y197 y198 y199 y200 y201 y202 y203 y204 y205 y206 y207 y208 y209 y210 y211 w' hcw
              have HCW := hide hcw
              clear hcw
              go_wp2_with fail
              go_roundw
              case rel => exact ⟨k + 1, by go_num, by omega, ((unhide HCH).alloc _).trans' (unhide HCW)⟩
              case measure => simp [intOf]; omega
      · have hm1 := (unhide HNN) k hr
        rw [hm1] at d0
        have hol2 : ownAt m k = -1 := ownAt_none hr
        rw [hol2] at o0
        have HINS := hide hins
        clear hm1 hol2 hr hins i0 i1 i2 hch hbq
        generalize insAt m k = ins at *
        go_wp2_with fail
        go_roundw
        case rel => exact ⟨k + 1, by go_num, by omega, (unhide HCH).alloc _⟩
        case measure => simp [intOf]; omega
    · obtain rfl : k = n := by omega
      have HCH := hide hch
      clear hch
      go_wp2_with fail
      go_ret
      exact ⟨rfl, (unhide H0).trans' (unhide HCH)⟩
end Go.Proofs.YtejkaalhjocmgaaDoor

namespace Go.Proofs.YtejkaalhjocmgaaDoor
open Go.RowKit
set_option maxHeartbeats 2000000
set_option maxRecDepth 1000000
theorem follows_yes (m : Im) (pA cA : Option Addr) (pc cc : Nat) (T T2 : Nat → Prop) (w : World) (hp : Rd T w pA (m.pool.flatMap cstv)) (hc : Rd T2 w cA (m.code.flatMap insv)) (hpn : m.pool.length ≤ 9223372036854775807) (hcn : m.code.length ≤ 9223372036854775807) (px : ∀ x ∈ m.pool, x.text.size ≤ 9223372036854775807) (lay : Lay w) (hf : fewB m = true) (hv : verE m = 0) :
    Calls Tryd.prog 5 #[.agg #[.slice pA m.pool.length pc, .slice cA m.code.length cc]] w fun e w' => e = .returned (.bool true) ∧ Chg (fun _ => False) w w' := by
  have b1 := Blk.new w 25 #[.slice pA m.pool.length pc, .slice cA m.code.length cc]
  have c1 := (Chg.refl (fun _ => False) w).alloc (.cells #[.slice pA m.pool.length pc, .slice cA m.code.length cc] 25)
  have HA := hide (fun W (hW : Chg (fun _ => False) w W) => awake_any W (lay.chg hW (fun _ _ => id)))
  have HF := hide (fun W (hW : Chg (fun _ => False) w W) => few_any m pc cc pA cA T W (hp.chg hW (fun _ _ _ => id)) hpn hcn px)
  have HB := hide b1
  have HC1 := hide c1
  have x0 := b1.cell 0
  have x1 := b1.cell 1
  simp only [List.getElem?_toArray, List.getElem?_cons_zero, List.getElem?_cons_succ] at x0 x1
  have HD1 := hide (Chg.refl (fun _ => False) (w.alloc (.cells #[.slice pA m.pool.length pc, .slice cA m.code.length cc] 25)))
  clear b1 c1
  have hl := few_lens hf
  have HCP := hide (fun W (hW : Chg (fun _ => False) w W) => copy_any m pA cA pc cc T T2 W (hp.chg hW (fun _ _ _ => id)) (hc.chg hW (fun _ _ _ => id)) (by omega) (by omega) px (lay.chg hW (fun _ _ => id)))
  rw [hf] at HF
  have HG := hide (ver_ok hv)
  have hhc := (unhide HC1).size
  have HCD := hide hc
  have HVE := hide hv
  clear hp hc px lay hf hv
  go_enter Tryd.func5, Tryd.ntmps5
  go_upto_region 3 with (first
    | (go_at_call 7; (with_reducible refine (unhide HA _ (unhide HC1)).mono ?_); rintro e w2 ⟨rfl, hch⟩; have HC2 := hide ((unhide HC1).trans' hch); have HD2 := hide ((unhide HD1).trans' hch); have hk := (unhide HB).chg (unhide HD2) id; have y0 := hk.cell 0; have y1 := hk.cell 1; simp only [List.getElem?_toArray, List.getElem?_cons_zero, List.getElem?_cons_succ] at y0 y1; clear hk; clear hch)
    | (go_at_call 8; (with_reducible refine (unhide HF _ (unhide HC2)).mono ?_); rintro e w3 ⟨rfl, hch⟩; have HC3 := hide ((unhide HC2).trans' hch); have HD3 := hide ((unhide HD2).trans' hch); have hk := (unhide HB).chg (unhide HD3) id; have z0 := hk.cell 0; have z1 := hk.cell 1; simp only [List.getElem?_toArray, List.getElem?_cons_zero, List.getElem?_cons_succ] at z0 z1; clear hk; clear hch)
    | (go_at_call 11; (with_reducible refine (unhide HCP _ (unhide HC3)).mono ?_); rintro e w5 ⟨A', c', B', d', rfl, hcp, _, _, hch⟩; have HC5 := hide ((unhide HC3).trans' hch); have HD5 := hide ((unhide HD3).trans' hch); have hk := (unhide HB).chg (unhide HD5) id; have v0 := hk.cell 0; have v1 := hk.cell 1; simp only [List.getElem?_toArray, List.getElem?_cons_zero, List.getElem?_cons_succ] at v0 v1; clear hk; have HV := hide hcp.ver; clear hch hcp)
    | (go_at_call 13; (with_reducible refine (unhide HV).mono ?_); rintro e w6 ⟨rfl, hch⟩; have HC6 := hide ((unhide HC5).trans' hch); have HD6 := hide ((unhide HD5).trans' hch); have hk := (unhide HB).chg (unhide HD6) id; have s0 := hk.cell 0; have s1 := hk.cell 1; simp only [List.getElem?_toArray, List.getElem?_cons_zero, List.getElem?_cons_succ] at s0 s1; clear hk; rw [unhide HVE]; clear hch))
  rename_i K hK
  have HK := hide hK
  clear hK
  have HCH := hide ((unhide HC6).drew)
  have HDH := hide ((unhide HD6).drew)
  have tok1 : True := trivial
  have HDN := hide (dep_len (unhide HVE))
  have HON := hide (own_len (unhide HVE))
  refine wp_region_noPanic ?_
  go_region_held3 (fun W' => W'.cell? ⟨w.heap.size, 0, none⟩ = some (.slice pA m.pool.length pc) ∧ W'.cell? ⟨w.heap.size, 1, none⟩ = some (.slice cA m.code.length cc)) (first | exact unhide HKK | go_keep) (first
    | (go_at_call 11; have _t := tok1; (with_reducible refine (unhide HCP _ (unhide HCH)).mono ?_); rintro e wa ⟨A1, c1, B1, d1, rfl, hcp, _, _, hch⟩; (first | (have HN_ := hide ((unhide HX1).later hch); clear HX1; have HX1 := HN_; clear HN_) | skip); (first | (have HN_ := hide ((unhide HX2).later hch); clear HX2; have HX2 := HN_; clear HN_) | skip); (first | (have HN_ := hide ((unhide HDV).chg hch (fun _ _ _ => id)); clear HDV; have HDV := HN_; clear HN_) | skip); (first | (have HN_ := hide ((unhide HOV).chg hch (fun _ _ _ => id)); clear HOV; have HOV := HN_; clear HN_) | skip); have HX1 := hide hcp; have HN_ := hide ((unhide HCH).trans' hch); clear HCH; have HCH := HN_; clear HN_; have HN_ := hide ((unhide HDH).trans' hch); clear HDH; have HDH := HN_; clear HN_; have HKK := hide (show wa.cell? ⟨w.heap.size, 0, none⟩ = some (.slice pA m.pool.length pc) ∧ wa.cell? ⟨w.heap.size, 1, none⟩ = some (.slice cA m.code.length cc) from ⟨((unhide HB).chg (unhide HDH) id).cell 0, ((unhide HB).chg (unhide HDH) id).cell 1⟩); clear tok1 _t hch hcp)
    | (go_at_call 11; (with_reducible refine (unhide HCP _ (unhide HCH)).mono ?_); rintro e wb ⟨A2, c2, B2, d2, rfl, hcp, _, _, hch⟩; (first | (have HN_ := hide ((unhide HX1).later hch); clear HX1; have HX1 := HN_; clear HN_) | skip); (first | (have HN_ := hide ((unhide HX2).later hch); clear HX2; have HX2 := HN_; clear HN_) | skip); (first | (have HN_ := hide ((unhide HDV).chg hch (fun _ _ _ => id)); clear HDV; have HDV := HN_; clear HN_) | skip); (first | (have HN_ := hide ((unhide HOV).chg hch (fun _ _ _ => id)); clear HOV; have HOV := HN_; clear HN_) | skip); have HX2 := hide hcp; have HN_ := hide ((unhide HCH).trans' hch); clear HCH; have HCH := HN_; clear HN_; have HN_ := hide ((unhide HDH).trans' hch); clear HDH; have HDH := HN_; clear HN_; have HKK := hide (show wb.cell? ⟨w.heap.size, 0, none⟩ = some (.slice pA m.pool.length pc) ∧ wb.cell? ⟨w.heap.size, 1, none⟩ = some (.slice cA m.code.length cc) from ⟨((unhide HB).chg (unhide HDH) id).cell 0, ((unhide HB).chg (unhide HDH) id).cell 1⟩); clear hch hcp)
    | (go_at_call 10; (first | (with_reducible refine (unhide HX1).dep.mono ?_) | (with_reducible refine (unhide HX2).dep.mono ?_)); rintro e wd ⟨vd, rfl, hdv, hch⟩; (first | (have HN_ := hide ((unhide HX1).later hch); clear HX1; have HX1 := HN_; clear HN_) | skip); (first | (have HN_ := hide ((unhide HX2).later hch); clear HX2; have HX2 := HN_; clear HN_) | skip); (first | (have HN_ := hide ((unhide HDV).chg hch (fun _ _ _ => id)); clear HDV; have HDV := HN_; clear HN_) | skip); (first | (have HN_ := hide ((unhide HOV).chg hch (fun _ _ _ => id)); clear HOV; have HOV := HN_; clear HN_) | skip); have HDV := hide (hdv.mono (fun _ _ => trivial) : RdI (fun _ => True) _ vd _); have HN_ := hide ((unhide HCH).trans' hch); clear HCH; have HCH := HN_; clear HN_; have HN_ := hide ((unhide HDH).trans' hch); clear HDH; have HDH := HN_; clear HN_; have HKK := hide (show wd.cell? ⟨w.heap.size, 0, none⟩ = some (.slice pA m.pool.length pc) ∧ wd.cell? ⟨w.heap.size, 1, none⟩ = some (.slice cA m.code.length cc) from ⟨((unhide HB).chg (unhide HDH) id).cell 0, ((unhide HB).chg (unhide HDH) id).cell 1⟩); obtain ⟨Ad, cd, rfl⟩ := (show ∃ A c, vd = .slice A m.code.length c from by obtain ⟨A, c, h⟩ := hdv.val; exact ⟨A, c, by rw [h, unhide HDN]⟩); clear hch hdv)
    | (go_at_call 12; (first | (with_reducible refine (unhide HX1).own.mono ?_) | (with_reducible refine (unhide HX2).own.mono ?_)); rintro e wo ⟨vo, rfl, hov, hch⟩; (first | (have HN_ := hide ((unhide HX1).later hch); clear HX1; have HX1 := HN_; clear HN_) | skip); (first | (have HN_ := hide ((unhide HX2).later hch); clear HX2; have HX2 := HN_; clear HN_) | skip); (first | (have HN_ := hide ((unhide HDV).chg hch (fun _ _ _ => id)); clear HDV; have HDV := HN_; clear HN_) | skip); (first | (have HN_ := hide ((unhide HOV).chg hch (fun _ _ _ => id)); clear HOV; have HOV := HN_; clear HN_) | skip); have HOV := hide (hov.mono (fun _ _ => trivial) : RdI (fun _ => True) _ vo _); have HN_ := hide ((unhide HCH).trans' hch); clear HCH; have HCH := HN_; clear HN_; have HN_ := hide ((unhide HDH).trans' hch); clear HDH; have HDH := HN_; clear HN_; have HKK := hide (show wo.cell? ⟨w.heap.size, 0, none⟩ = some (.slice pA m.pool.length pc) ∧ wo.cell? ⟨w.heap.size, 1, none⟩ = some (.slice cA m.code.length cc) from ⟨((unhide HB).chg (unhide HDH) id).cell 0, ((unhide HB).chg (unhide HDH) id).cell 1⟩); obtain ⟨Ao, co, rfl⟩ := (show ∃ A c, vo = .slice A m.code.length c from by obtain ⟨A, c, h⟩ := hov.val; exact ⟨A, c, by rw [h, unhide HON]⟩); clear hch hov))

  all_goals
    refine NoPanic.normal ?_
    refine unhide HK _ _ ?_
    have hd := unhide HDV
    have ho := unhide HOV
    rw [dep_list (unhide HVE)] at hd
    rw [own_list (unhide HVE)] at ho
    exact fol_rest _ _ _ _ _ _ _ _ _ _ _ _ _ _ _ _ _ _ _ _ _ _ _ _ _ _ _ _ _ _ _ _ _ _ _ _ _ _ _ _ _ _ _ _ _ _ _ _ _ _ _ _ _ _ _ _ _ _ _ _ _ _ _ _ _ _ _ _ _ _ _ _ _ _ _ _ _ _ _ _ _ _ _ _ _ _ _ _ _ _ _ _ _ _ _ _ _ _ _ _ _ _ _ _ _ _ _ _ _ _ _ _ _ _ _ _ _ _ _ _ _ _ _ _ _ _ _ _ _ _ _ _ _ _ _ _ _ _ _ _ _ _ _ _ _ _ _ _ _ _ _ _ _ _ _ _ _ _ _ _ _ _ _ _ _ _ _ _ _ _ _ _ _ _ _ _ _ _ _ _ _ _ _ _ _ _ _ _ _ _ _ _ _ _ _ _ _ _ _ _ _ _ _ _ _ _ _ _ _ m pA cA pc cc _ cd co Ad Ao T2 w _ (unhide HCH) ((unhide HB).chg (unhide HDH) id) ((unhide HCD).chg (unhide HCH) (fun _ _ _ => id)) hd ho (unhide HG).2 (codeOk_of (imgE_code (unhide HG).1)) hl.2
end Go.Proofs.YtejkaalhjocmgaaDoor
