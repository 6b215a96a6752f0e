/-
  Layer 19: where an instruction is done: guards in a drawn order.
-/
import Derived.Test.YtejkaalhjocmgaaDoorWr
namespace Go.Proofs.YtejkaalhjocmgaaDoor
open Go.RowKit
set_option maxHeartbeats 1000000
set_option maxRecDepth 1000000
theorem heldOff {P : Program} {md : Region.Mode} {ops : Array Oper} {Q : Exit → Act → World → Prop} {S : World → Prop} {fuel : Nat} {listed : Array Bool} {a : Act} {w : World} (i : Nat) {oi : Oper} (hi : ops[i]? = some oi) (hs : Region.noSelect ops = true) (hf : Region.free md ops listed i = true) (hr : (Region.ready md ops listed).contains i = true)
    (hQ : ∀ c a w, Q (.panic c) (a.put oi.dst undef) w → Q (.panic c) a w) (hw : Region.wanted oi (yielded ops a.tmps) = false) (hS : S w) (h : wpAnyH P md ops Q S fuel (listed.setIfInBounds i true) (a.put oi.dst undef) w) : wpAnyH P md ops Q S (fuel + 1) listed a w :=
  wpAnyH_take hi hs hf hr hQ (Or.inr ⟨hw, rfl⟩) hS h
theorem heldOn {P : Program} {md : Region.Mode} {ops : Array Oper} {Q : Exit → Act → World → Prop} {S : World → Prop} {fuel : Nat} {listed : Array Bool} {a : Act} {w : World} (i : Nat) (v : Value) {oi : Oper} (hi : ops[i]? = some oi) (hs : Region.noSelect ops = true) (hf : Region.free md ops listed i = true) (hr : (Region.ready md ops listed).contains i = true)
    (hQ : ∀ c a w, Q (.panic c) (a.put oi.dst v) w → Q (.panic c) a w) (hw : Region.wanted oi (yielded ops a.tmps) = true) (hv : ∀ w, S w → (execOp a.eval oi).run P w = .ok (.value v) w) (hS : S w) (h : wpAnyH P md ops Q S fuel (listed.setIfInBounds i true) (a.put oi.dst v) w) : wpAnyH P md ops Q S (fuel + 1) listed a w :=
  wpAnyH_take hi hs hf hr hQ (Or.inl ⟨hw, hv⟩) hS h
theorem DoSt.keeps {w w2 : World} {base c b mp n L : Nat} {m : Im} {pA cA : Option Addr} {pc cc : Nat} {v5 : Value} {f : I64 → Option Int} {cs : Array Value} {C : PC} {at_ : Nat} {s : PSt} {tv : Value} {cb ib sb fb : Nat} (h : DoSt w base c b mp n L m pA cA pc cc v5 f cs C at_ s tv cb ib sb fb) (hc : Chg (fun _ => False) w w2) :
    Blk w2 ib 42 #[.int .i64 (insAt m at_).op, .int .i64 (insAt m at_).a, .int .i64 (insAt m at_).b] ∧ Blk w2 cb 64 #[.pointer (some ⟨c, 0, none⟩)] ∧ w2.cell? ⟨c, 0, none⟩ = some (.slice pA m.pool.length pc) ∧ Blk w2 sb 49 #[.int .i64 s.of, .int .i64 s.height, tv, .bool true] :=
  ⟨h.ibB.chg hc id, h.cbB.chg hc id, (h.mem.ck.chg hc id).cell 0, h.sbB.chg hc id⟩
theorem do_19_t (x3 x9 x10 x11 x12 x13 x14 x15 x16 x17 x18 x19 x20 x21 x22 x23 x24 x25 x26 x27 x28 x29 x30 x31 x32 x33 x34 x35 x36 x37 x38 x39 x40 x42 x43 x44 x45 x46 x47 x48 x49 x50 x51 x52 x53 x54 x55 x56 x57 x58 x59 x60 x61 x62 x63 x64 x65 x66 x67 x68 x69 x70 x71 x72 x73 x74 x75 x76 x77 x78 x79 x80 x81 x82 x83 x84 x85 x86 x87 x88 x89 x90 x91 x92 x93 x94 x95 x96 x97 x98 x99 x100 x101 x102 x103 x104 x105 x106 x107 x108 x109 x110 x111 x112 x113 x114 x115 x116 x117 x118 x119 x120 x121 x122 x123 x124 x125 x126 x127 x128 x129 x130 x131 x132 x133 x134 x135 x136 x137 x138 x139 x140 x141 x142 x143 x144 x145 x146 x147 x148 x149 x150 x151 x152 x153 x154 x155 x156 x157 x158 x159 x160 x161 x162 x163 x164 x165 x166 x167 x168 x169 x170 x171 x172 x173 x174 x175 x176 x177 x178 x179 x180 x181 x182 x183 x184 x185 x186 x187 x188 x189 x190 x191 x192 x193 x194 x195 x196 x197 x198 x199 x200 x201 x202 x203 x204 x205 x206 x207 x208 x209 x210 x211 x212 x213 x214 x215 x216 x217 x218 x219 x220 x221 x222 x223 x224 x225 x226 x227 x228 x229 x230 x231 x232 x233 x234 x235 x236 x237 x238 x239 x240 x241 x242 x243 x244 x245 x246 x247 x248 x249 x250 x251 x252 x253 x254 x255 x256 x257 x258 x259 x260 x261 x262 x263 x264 x265 x266 x267 x268 x269 x270 x271 x272 x273 x274 x275 x276 x277 x278 x279 x280 x281 x282 x283 x284 x285 x286 x287 x288 x289 x290 x291 x292 x293 x294 x295 x296 x297 x298 x299 x300 x301 x302 x303 x304 x305 x306 x307 x308 x309 x310 x311 x312 x313 x314 x315 x316 x317 x318 x319 x320 : Value) (w : World) (base c b mp n L : Nat) (m : Im) (pA cA : Option Addr) (pc cc : Nat) (v5 : Value) (f : I64 → Option Int) (cs : Array Value) (C : PC) (at_ : Nat) (s : PSt) (tv : Value) (cb ib sb fb : Nat) (ia ibv : Int)
    (h : DoSt w base c b mp n L m pA cA pc cc v5 f cs C at_ s tv cb ib sb fb) (hi : insAt m at_ = ⟨19, ia, ibv⟩) (hns : 0 < s.height)
    (Q : Exit → Act → World → Prop) (hexit : ∀ (tmps : Array Value) (w' : World), COut w w' base c b mp n (L + 1) (.slice pA m.pool.length pc) (.slice cA n cc) v5 (C.act conB m at_ s) → Q .normal ⟨tmps, []⟩ w') :
    Code.wp Tryd.prog doC Q ⟨#[.pointer (some ⟨c, 0, none⟩), .int .i64 (at_ : Int), .pointer (some ⟨cb, 0, none⟩), x3, .pointer (some ⟨ib, 0, none⟩), .pointer (some ⟨sb, 0, none⟩), .pointer (some ⟨fb, 0, none⟩), .bool (s.of != -1), .func (.func 45) #[] #[.pointer (some ⟨sb, 0, none⟩), .pointer (some ⟨fb, 0, none⟩), .pointer (some ⟨cb, 0, none⟩)], x9, x10, x11, x12, x13, x14, x15, x16, x17, x18, x19, x20, x21, x22, x23, x24, x25, x26, x27, x28, x29, x30, x31, x32, x33, x34, x35, x36, x37, x38, x39, x40, .int .i64 19, x42, x43, x44, x45, x46, x47, x48, x49, x50, x51, x52, x53, x54, x55, x56, x57, x58, x59, x60, x61, x62, x63, x64, x65, x66, x67, x68, x69, x70, x71, x72, x73, x74, x75, x76, x77, x78, x79, x80, x81, x82, x83, x84, x85, x86, x87, x88, x89, x90, x91, x92, x93, x94, x95, x96, x97, x98, x99, x100, x101, x102, x103, x104, x105, x106, x107, x108, x109, x110, x111, x112, x113, x114, x115, x116, x117, x118, x119, x120, x121, x122, x123, x124, x125, x126, x127, x128, x129, x130, x131, x132, x133, x134, x135, x136, x137, x138, x139, x140, x141, x142, x143, x144, x145, x146, x147, x148, x149, x150, x151, x152, x153, x154, x155, x156, x157, x158, x159, x160, x161, x162, x163, x164, x165, x166, x167, x168, x169, x170, x171, x172, x173, x174, x175, x176, x177, x178, x179, x180, x181, x182, x183, x184, x185, x186, x187, x188, x189, x190, x191, x192, x193, x194, x195, x196, x197, x198, x199, x200, x201, x202, x203, x204, x205, x206, x207, x208, x209, x210, x211, x212, x213, x214, x215, x216, x217, x218, x219, x220, x221, x222, x223, x224, x225, x226, x227, x228, x229, x230, x231, x232, x233, x234, x235, x236, x237, x238, x239, x240, x241, x242, x243, x244, x245, x246, x247, x248, x249, x250, x251, x252, x253, x254, x255, x256, x257, x258, x259, x260, x261, x262, x263, x264, x265, x266, x267, x268, x269, x270, x271, x272, x273, x274, x275, x276, x277, x278, x279, x280, x281, x282, x283, x284, x285, x286, x287, x288, x289, x290, x291, x292, x293, x294, x295, x296, x297, x298, x299, x300, x301, x302, x303, x304, x305, x306, x307, x308, x309, x310, x311, x312, x313, x314, x315, x316, x317, x318, x319, x320], []⟩ w := by
  obtain ⟨ia, rfl⟩ := Int.eq_ofNat_of_zero_le (insAt_a h hi)
  have hok := insAt_ok h.ok (by have := h.at_lt; have := h.ncode; omega : at_ < m.code.length)
  rw [hi] at hok
  dsimp only at hok
  have hAct : C.act conB m at_ s = C.step n s (floorT s.tries) 0 0 (decide (0 < s.height) && conAt conB m ibv) [ia, at_ + 1] := by
    have hn := h.ncode
    unfold PC.act
    rw [hi, hn]
    rfl
  have i0 := h.ibB.cell 0
  have i1 := h.ibB.cell 1
  have i2 := h.ibB.cell 2
  have s0 := h.sbB.cell 0
  have s1 := h.sbB.cell 1
  have s2 := h.sbB.cell 2
  have c0 := h.cbB.cell 0
  have k0 := h.mem.ck.cell 0
  have k3 := h.mem.ck.cell 3
  rw [hi] at i0 i1 i2
  simp only [List.getElem?_toArray, List.getElem?_cons_zero, List.getElem?_cons_succ] at i0 i1 i2 s0 s1 s2 c0 k0 k3
  have hat := h.at_lt
  have hn_ := h.n_
  have hht := h.ht
  have hpn := h.pn
  have htrl := h.trl
  obtain ⟨tA, tcp, htv⟩ := h.tr.val
  rw [htv] at s2
  rw [hAct] at hexit
  have H := hide h
  have HX := hide hexit
  clear h hexit hAct htv
  have HSA := hide (fun (W : World) (hW : Chg (fun _ => False) w.drew W) => (unhide H).step 0 0 (conAt conB m ibv) [ia, at_ + 1] (some ⟨W.heap.size, 0, none⟩) 2 (W.alloc (.cells ([ia, at_ + 1].map (fun t : Nat => intl (t : Int))).toArray 3)) (((Chg.refl _ w).drew.trans' hW).alloc _) (tos_new (unhide H).mem [ia, at_ + 1] (by simp) W ((Chg.refl _ w).drew.trans' hW)) (by simp <;> omega) (by simp) (by omega))
  have HSB := hide (fun (W : World) (hW : Chg (fun _ => False) (w.alloc (.cells ([ia, at_ + 1].map (fun t : Nat => intl (t : Int))).toArray 3)).drew W) => (unhide H).step 0 0 (conAt conB m ibv) [ia, at_ + 1] (some ⟨w.heap.size, 0, none⟩) 2 W (((Chg.refl _ w).alloc _).drew.trans' hW) (((Rd_drew (tos_new (unhide H).mem [ia, at_ + 1] (by simp) w (Chg.refl _ w))).chg hW (fun _ _ _ => id)).mono (fun k hk => TT.old hk hW.size)) (by simp <;> omega) (by simp) (by omega))
  have hcl := (unhide H).cbB.lt
  have hil := (unhide H).ibB.lt
  have hkl := (unhide H).mem.ck.lt
  have hsl := (unhide H).sbB.lt
  have hw1 : IntKind.i64.wrap ((at_ : Int) + 1) = (at_ : Int) + 1 := IntWalk.i64_in _ (by omega)
  have hbz : 0 ≤ ibv := hok.2.2.2.2.1
  have HCON := hide (fun (W : World) (hW : Chg (fun _ => False) w W) => show Calls Tryd.prog 46 #[.pointer (some ⟨c, 0, none⟩), .int .i64 ibv] W fun e w' => e = .returned (.bool (conAt conB m ibv)) ∧ Chg (fun _ => False) W w' from by
    have hcc := ckCon_any m ibv c n pc pA _ _ _ _ _ _ W hbz ((unhide H).lay.chg hW (fun _ _ => id)) ((unhide H).mem.ck.chg hW id) ((unhide H).pl.chg hW (fun _ _ _ => id)) (unhide H).px (by omega)
    skip
    exact hcc)
  have hd : decide (0 < s.height) = true := decide_eq_true hns
  rw [hd, Bool.true_and] at HX
  generalize hcv : conAt conB m ibv = cv at *
  conv => arg 2; whnf
  go_upto_region 53 with fail
  refine wp_region_noPanic ?_
  go_region_held3 (fun W' => W'.cell? ⟨ib, 1, none⟩ = some (.int .i64 (ia : Int)) ∧ W'.cell? ⟨ib, 2, none⟩ = some (.int .i64 ibv) ∧ W'.cell? ⟨sb, 1, none⟩ = some (.int .i64 s.height) ∧ W'.cell? ⟨cb, 0, none⟩ = some (.pointer (some ⟨c, 0, none⟩))) (first | exact unhide HKL | exact unhide HKK | go_keep) (first
    | (go_at_call 46; (first | refine (unhide HCON _ (Chg.refl _ w).drew).mono ?_ | refine (unhide HCON _ ((Chg.refl _ w).alloc _).drew).mono ?_); rintro e w2 ⟨rfl, hch⟩; obtain ⟨k1, k2, k3, k4⟩ := (unhide H).keeps ((by first | exact (Chg.refl _ w).drew | exact ((Chg.refl _ w).alloc _).drew : Chg (fun _ => False) w _).trans' hch); rw [hi] at k1; have HKK := hide (show w2.cell? ⟨ib, 1, none⟩ = some (.int .i64 (ia : Int)) ∧ w2.cell? ⟨ib, 2, none⟩ = some (.int .i64 ibv) ∧ w2.cell? ⟨sb, 1, none⟩ = some (.int .i64 s.height) ∧ w2.cell? ⟨cb, 0, none⟩ = some (.pointer (some ⟨c, 0, none⟩)) from ⟨k1.cell 1, k1.cell 2, k4.cell 1, k2.cell 0⟩); have HCH := hide hch; clear hch k1 k2 k3 k4)
    | (go_at_call 45; (first | refine (unhide HSA _ (unhide HCH)).mono ?_ | refine (unhide HSB _ (unhide HCH)).mono ?_); rintro e w3 ⟨rfl, hco⟩; obtain ⟨k1, k2, k3, k4⟩ := (unhide H).after hco; rw [hi] at k1; have HKL := hide (show w3.cell? ⟨ib, 1, none⟩ = some (.int .i64 (ia : Int)) ∧ w3.cell? ⟨ib, 2, none⟩ = some (.int .i64 ibv) ∧ w3.cell? ⟨sb, 1, none⟩ = some (.int .i64 s.height) ∧ w3.cell? ⟨cb, 0, none⟩ = some (.pointer (some ⟨c, 0, none⟩)) from ⟨k1.cell 1, k1.cell 2, k4.cell 1, k2.cell 0⟩); have HCO := hide hco; clear hco k1 k2 k3 k4))
  all_goals
    refine NoPanic.normal ?_
    try dsimp only
    go_wp2_with fail
    exact unhide HX _ _ (unhide HCO).more
theorem do_19_f (x3 x9 x10 x11 x12 x13 x14 x15 x16 x17 x18 x19 x20 x21 x22 x23 x24 x25 x26 x27 x28 x29 x30 x31 x32 x33 x34 x35 x36 x37 x38 x39 x40 x42 x43 x44 x45 x46 x47 x48 x49 x50 x51 x52 x53 x54 x55 x56 x57 x58 x59 x60 x61 x62 x63 x64 x65 x66 x67 x68 x69 x70 x71 x72 x73 x74 x75 x76 x77 x78 x79 x80 x81 x82 x83 x84 x85 x86 x87 x88 x89 x90 x91 x92 x93 x94 x95 x96 x97 x98 x99 x100 x101 x102 x103 x104 x105 x106 x107 x108 x109 x110 x111 x112 x113 x114 x115 x116 x117 x118 x119 x120 x121 x122 x123 x124 x125 x126 x127 x128 x129 x130 x131 x132 x133 x134 x135 x136 x137 x138 x139 x140 x141 x142 x143 x144 x145 x146 x147 x148 x149 x150 x151 x152 x153 x154 x155 x156 x157 x158 x159 x160 x161 x162 x163 x164 x165 x166 x167 x168 x169 x170 x171 x172 x173 x174 x175 x176 x177 x178 x179 x180 x181 x182 x183 x184 x185 x186 x187 x188 x189 x190 x191 x192 x193 x194 x195 x196 x197 x198 x199 x200 x201 x202 x203 x204 x205 x206 x207 x208 x209 x210 x211 x212 x213 x214 x215 x216 x217 x218 x219 x220 x221 x222 x223 x224 x225 x226 x227 x228 x229 x230 x231 x232 x233 x234 x235 x236 x237 x238 x239 x240 x241 x242 x243 x244 x245 x246 x247 x248 x249 x250 x251 x252 x253 x254 x255 x256 x257 x258 x259 x260 x261 x262 x263 x264 x265 x266 x267 x268 x269 x270 x271 x272 x273 x274 x275 x276 x277 x278 x279 x280 x281 x282 x283 x284 x285 x286 x287 x288 x289 x290 x291 x292 x293 x294 x295 x296 x297 x298 x299 x300 x301 x302 x303 x304 x305 x306 x307 x308 x309 x310 x311 x312 x313 x314 x315 x316 x317 x318 x319 x320 : Value) (w : World) (base c b mp n L : Nat) (m : Im) (pA cA : Option Addr) (pc cc : Nat) (v5 : Value) (f : I64 → Option Int) (cs : Array Value) (C : PC) (at_ : Nat) (s : PSt) (tv : Value) (cb ib sb fb : Nat) (ia ibv : Int)
    (h : DoSt w base c b mp n L m pA cA pc cc v5 f cs C at_ s tv cb ib sb fb) (hi : insAt m at_ = ⟨19, ia, ibv⟩) (hlow : s.height ≤ 0)
    (Q : Exit → Act → World → Prop) (hexit : ∀ (tmps : Array Value) (w' : World), COut w w' base c b mp n (L + 1) (.slice pA m.pool.length pc) (.slice cA n cc) v5 (C.act conB m at_ s) → Q .normal ⟨tmps, []⟩ w') :
    Code.wp Tryd.prog doC Q ⟨#[.pointer (some ⟨c, 0, none⟩), .int .i64 (at_ : Int), .pointer (some ⟨cb, 0, none⟩), x3, .pointer (some ⟨ib, 0, none⟩), .pointer (some ⟨sb, 0, none⟩), .pointer (some ⟨fb, 0, none⟩), .bool (s.of != -1), .func (.func 45) #[] #[.pointer (some ⟨sb, 0, none⟩), .pointer (some ⟨fb, 0, none⟩), .pointer (some ⟨cb, 0, none⟩)], x9, x10, x11, x12, x13, x14, x15, x16, x17, x18, x19, x20, x21, x22, x23, x24, x25, x26, x27, x28, x29, x30, x31, x32, x33, x34, x35, x36, x37, x38, x39, x40, .int .i64 19, x42, x43, x44, x45, x46, x47, x48, x49, x50, x51, x52, x53, x54, x55, x56, x57, x58, x59, x60, x61, x62, x63, x64, x65, x66, x67, x68, x69, x70, x71, x72, x73, x74, x75, x76, x77, x78, x79, x80, x81, x82, x83, x84, x85, x86, x87, x88, x89, x90, x91, x92, x93, x94, x95, x96, x97, x98, x99, x100, x101, x102, x103, x104, x105, x106, x107, x108, x109, x110, x111, x112, x113, x114, x115, x116, x117, x118, x119, x120, x121, x122, x123, x124, x125, x126, x127, x128, x129, x130, x131, x132, x133, x134, x135, x136, x137, x138, x139, x140, x141, x142, x143, x144, x145, x146, x147, x148, x149, x150, x151, x152, x153, x154, x155, x156, x157, x158, x159, x160, x161, x162, x163, x164, x165, x166, x167, x168, x169, x170, x171, x172, x173, x174, x175, x176, x177, x178, x179, x180, x181, x182, x183, x184, x185, x186, x187, x188, x189, x190, x191, x192, x193, x194, x195, x196, x197, x198, x199, x200, x201, x202, x203, x204, x205, x206, x207, x208, x209, x210, x211, x212, x213, x214, x215, x216, x217, x218, x219, x220, x221, x222, x223, x224, x225, x226, x227, x228, x229, x230, x231, x232, x233, x234, x235, x236, x237, x238, x239, x240, x241, x242, x243, x244, x245, x246, x247, x248, x249, x250, x251, x252, x253, x254, x255, x256, x257, x258, x259, x260, x261, x262, x263, x264, x265, x266, x267, x268, x269, x270, x271, x272, x273, x274, x275, x276, x277, x278, x279, x280, x281, x282, x283, x284, x285, x286, x287, x288, x289, x290, x291, x292, x293, x294, x295, x296, x297, x298, x299, x300, x301, x302, x303, x304, x305, x306, x307, x308, x309, x310, x311, x312, x313, x314, x315, x316, x317, x318, x319, x320], []⟩ w := by
  obtain ⟨ia, rfl⟩ := Int.eq_ofNat_of_zero_le (insAt_a h hi)
  have hok := insAt_ok h.ok (by have := h.at_lt; have := h.ncode; omega : at_ < m.code.length)
  rw [hi] at hok
  dsimp only at hok
  have hAct : C.act conB m at_ s = C.step n s (floorT s.tries) 0 0 (decide (0 < s.height) && conAt conB m ibv) [ia, at_ + 1] := by
    have hn := h.ncode
    unfold PC.act
    rw [hi, hn]
    rfl
  have i0 := h.ibB.cell 0
  have i1 := h.ibB.cell 1
  have i2 := h.ibB.cell 2
  have s0 := h.sbB.cell 0
  have s1 := h.sbB.cell 1
  have s2 := h.sbB.cell 2
  have c0 := h.cbB.cell 0
  have k0 := h.mem.ck.cell 0
  have k3 := h.mem.ck.cell 3
  rw [hi] at i0 i1 i2
  simp only [List.getElem?_toArray, List.getElem?_cons_zero, List.getElem?_cons_succ] at i0 i1 i2 s0 s1 s2 c0 k0 k3
  have hat := h.at_lt
  have hn_ := h.n_
  have hht := h.ht
  have hpn := h.pn
  have htrl := h.trl
  obtain ⟨tA, tcp, htv⟩ := h.tr.val
  rw [htv] at s2
  rw [hAct] at hexit
  have H := hide h
  have HX := hide hexit
  clear h hexit hAct htv
  have HS := hide ((unhide H).step 0 0 false [ia, at_ + 1] (some ⟨w.heap.size, 0, none⟩) 2 ((w.alloc (.cells ([ia, at_ + 1].map (fun t : Nat => intl (t : Int))).toArray 3)).drew) ((Chg.refl _ w).alloc _).drew (tos_new (unhide H).mem [ia, at_ + 1] (by simp) w (Chg.refl _ w)) (by simp <;> omega) (by simp) (by omega))
  have hcl := (unhide H).cbB.lt
  have hil := (unhide H).ibB.lt
  have hkl := (unhide H).mem.ck.lt
  have hsl := (unhide H).sbB.lt
  have hw1 : IntKind.i64.wrap ((at_ : Int) + 1) = (at_ : Int) + 1 := IntWalk.i64_in _ (by omega)
  have hns : ¬ 0 < s.height := by omega
  have hd : decide (0 < s.height) = false := decide_eq_false (by omega)
  rw [hd, Bool.false_and] at HX
  conv => arg 2; whnf
  go_upto_region 53 with fail
  refine wp_region_noPanic ?_
  refine wp_region_held_drew (S := fun W' => W'.cell? ⟨ib, 1, none⟩ = some (.int .i64 (ia : Int)) ∧ W'.cell? ⟨sb, 1, none⟩ = some (.int .i64 s.height)) (by kernel_rfl) ⟨i1, s1⟩ (fun hHeld => ?_)
  refine heldOn 0 (_) rfl (by kernel_rfl) (by kernel_rfl) (by kernel_rfl) (fun _ _ _ h => h) (by rfl) (fun w hSw => by obtain ⟨hz0, hz1⟩ := hSw; go_simp; rfl) (by assumption) ?_
  simp only [Act.put, List.setIfInBounds_toArray]
  refine heldOn 1 (_) rfl (by kernel_rfl) (by kernel_rfl) (by kernel_rfl) (fun _ _ _ h => h) (by rfl) (fun w hSw => by obtain ⟨hz0, hz1⟩ := hSw; go_simp; rfl) (by assumption) ?_
  simp only [Act.put]
  refine heldOn 2 (_) rfl (by kernel_rfl) (by kernel_rfl) (by kernel_rfl) (fun _ _ _ h => h) (by rfl) (fun w hSw => by obtain ⟨hz0, hz1⟩ := hSw; go_simp; rfl) (by assumption) ?_
  simp only [Act.put]
  refine heldOn 3 (.bool false) rfl (by kernel_rfl) (by kernel_rfl) (by kernel_rfl) (fun _ _ _ h => h) (by rfl) (fun w hSw => by obtain ⟨hz0, hz1⟩ := hSw; go_simp) (by assumption) ?_
  simp only [Act.put]
  refine heldOn 4 (_) rfl (by kernel_rfl) (by kernel_rfl) (by kernel_rfl) (fun _ _ _ h => h) (by rfl) (fun w hSw => by obtain ⟨hz0, hz1⟩ := hSw; go_simp; rfl) (by assumption) ?_
  simp only [Act.put]
  refine heldOff 5 rfl (by kernel_rfl) (by kernel_rfl) (by kernel_rfl) (fun _ _ _ h => h) (by kernel_rfl) (by assumption) ?_
  simp only [Act.put]
  refine heldOff 6 rfl (by kernel_rfl) (by kernel_rfl) (by kernel_rfl) (fun _ _ _ h => h) (by kernel_rfl) (by assumption) ?_
  simp only [Act.put]
  refine heldOff 7 rfl (by kernel_rfl) (by kernel_rfl) (by kernel_rfl) (fun _ _ _ h => h) (by kernel_rfl) (by assumption) ?_
  simp only [Act.put]
  refine heldOff 8 rfl (by kernel_rfl) (by kernel_rfl) (by kernel_rfl) (fun _ _ _ h => h) (by kernel_rfl) (by assumption) ?_
  simp only [Act.put]
  refine heldOn 9 (_) rfl (by kernel_rfl) (by kernel_rfl) (by kernel_rfl) (fun _ _ _ h => h) (by rfl) (fun w hSw => by obtain ⟨hz0, hz1⟩ := hSw; go_simp; rfl) (by assumption) ?_
  simp only [Act.put]
  refine heldOn 10 (_) rfl (by kernel_rfl) (by kernel_rfl) (by kernel_rfl) (fun _ _ _ h => h) (by rfl) (fun w hSw => by obtain ⟨hz0, hz1⟩ := hSw; go_simp; rfl) (by assumption) ?_
  simp only [Act.put]
  refine heldOn 11 (_) rfl (by kernel_rfl) (by kernel_rfl) (by kernel_rfl) (fun _ _ _ h => h) (by rfl) (fun w hSw => by obtain ⟨hz0, hz1⟩ := hSw; go_simp; rfl) (by assumption) ?_
  simp only [Act.put]
  refine heldOn 12 (_) rfl (by kernel_rfl) (by kernel_rfl) (by kernel_rfl) (fun _ _ _ h => h) (by rfl) (fun w hSw => by obtain ⟨hz0, hz1⟩ := hSw; go_simp; rfl) (by assumption) ?_
  simp only [Act.put]
  refine heldOn 13 (_) rfl (by kernel_rfl) (by kernel_rfl) (by kernel_rfl) (fun _ _ _ h => h) (by rfl) (fun w hSw => by obtain ⟨hz0, hz1⟩ := hSw; go_simp; rfl) (by assumption) ?_
  simp only [Act.put]
  refine wpAnyH_ready (rs := [14]) (by kernel_rfl) (by simp) ?_
  refine AllReadyH.cons (o := _) rfl (fun K hK => ?_) AllReadyH.nil
  go_simp
  refine hK.out _ _ ⟨by go_keep, by go_keep⟩ (fun hHeld => ?_)
  clear hK K
  refine wpAnyH_ready (rs := [15]) (by kernel_rfl) (by simp) ?_
  refine AllReadyH.cons (o := _) rfl (fun K hK => ?_) AllReadyH.nil
  go_simp
  go_wp2_with (first
    | (go_at_call 45; refine (unhide HS).mono ?_; rintro e w2 ⟨rfl, hco⟩; obtain ⟨k1, k2, k3, k4⟩ := (unhide H).after hco; rw [hi] at k1; have HKK := hide (show w2.cell? ⟨ib, 1, none⟩ = some (.int .i64 (ia : Int)) ∧ w2.cell? ⟨sb, 1, none⟩ = some (.int .i64 s.height) from ⟨k1.cell 1, k4.cell 1⟩); have HCO := hide hco; clear hco k1 k2 k3 k4))
  refine hK.out _ _ (unhide HKK) (fun hHeld2 => ?_)
  refine wpAnyH_done (by kernel_rfl) ?_ _
  refine NoPanic.normal ?_
  try dsimp only
  go_wp2_with fail
  exact unhide HX _ _ (unhide HCO).more
theorem do_20_t (x3 x9 x10 x11 x12 x13 x14 x15 x16 x17 x18 x19 x20 x21 x22 x23 x24 x25 x26 x27 x28 x29 x30 x31 x32 x33 x34 x35 x36 x37 x38 x39 x40 x42 x43 x44 x45 x46 x47 x48 x49 x50 x51 x52 x53 x54 x55 x56 x57 x58 x59 x60 x61 x62 x63 x64 x65 x66 x67 x68 x69 x70 x71 x72 x73 x74 x75 x76 x77 x78 x79 x80 x81 x82 x83 x84 x85 x86 x87 x88 x89 x90 x91 x92 x93 x94 x95 x96 x97 x98 x99 x100 x101 x102 x103 x104 x105 x106 x107 x108 x109 x110 x111 x112 x113 x114 x115 x116 x117 x118 x119 x120 x121 x122 x123 x124 x125 x126 x127 x128 x129 x130 x131 x132 x133 x134 x135 x136 x137 x138 x139 x140 x141 x142 x143 x144 x145 x146 x147 x148 x149 x150 x151 x152 x153 x154 x155 x156 x157 x158 x159 x160 x161 x162 x163 x164 x165 x166 x167 x168 x169 x170 x171 x172 x173 x174 x175 x176 x177 x178 x179 x180 x181 x182 x183 x184 x185 x186 x187 x188 x189 x190 x191 x192 x193 x194 x195 x196 x197 x198 x199 x200 x201 x202 x203 x204 x205 x206 x207 x208 x209 x210 x211 x212 x213 x214 x215 x216 x217 x218 x219 x220 x221 x222 x223 x224 x225 x226 x227 x228 x229 x230 x231 x232 x233 x234 x235 x236 x237 x238 x239 x240 x241 x242 x243 x244 x245 x246 x247 x248 x249 x250 x251 x252 x253 x254 x255 x256 x257 x258 x259 x260 x261 x262 x263 x264 x265 x266 x267 x268 x269 x270 x271 x272 x273 x274 x275 x276 x277 x278 x279 x280 x281 x282 x283 x284 x285 x286 x287 x288 x289 x290 x291 x292 x293 x294 x295 x296 x297 x298 x299 x300 x301 x302 x303 x304 x305 x306 x307 x308 x309 x310 x311 x312 x313 x314 x315 x316 x317 x318 x319 x320 : Value) (w : World) (base c b mp n L : Nat) (m : Im) (pA cA : Option Addr) (pc cc : Nat) (v5 : Value) (f : I64 → Option Int) (cs : Array Value) (C : PC) (at_ : Nat) (s : PSt) (tv : Value) (cb ib sb fb : Nat) (ia ibv : Int)
    (h : DoSt w base c b mp n L m pA cA pc cc v5 f cs C at_ s tv cb ib sb fb) (hi : insAt m at_ = ⟨20, ia, ibv⟩) (hns : 0 < s.height)
    (Q : Exit → Act → World → Prop) (hexit : ∀ (tmps : Array Value) (w' : World), COut w w' base c b mp n (L + 1) (.slice pA m.pool.length pc) (.slice cA n cc) v5 (C.act conB m at_ s) → Q .normal ⟨tmps, []⟩ w') :
    Code.wp Tryd.prog doC Q ⟨#[.pointer (some ⟨c, 0, none⟩), .int .i64 (at_ : Int), .pointer (some ⟨cb, 0, none⟩), x3, .pointer (some ⟨ib, 0, none⟩), .pointer (some ⟨sb, 0, none⟩), .pointer (some ⟨fb, 0, none⟩), .bool (s.of != -1), .func (.func 45) #[] #[.pointer (some ⟨sb, 0, none⟩), .pointer (some ⟨fb, 0, none⟩), .pointer (some ⟨cb, 0, none⟩)], x9, x10, x11, x12, x13, x14, x15, x16, x17, x18, x19, x20, x21, x22, x23, x24, x25, x26, x27, x28, x29, x30, x31, x32, x33, x34, x35, x36, x37, x38, x39, x40, .int .i64 20, x42, x43, x44, x45, x46, x47, x48, x49, x50, x51, x52, x53, x54, x55, x56, x57, x58, x59, x60, x61, x62, x63, x64, x65, x66, x67, x68, x69, x70, x71, x72, x73, x74, x75, x76, x77, x78, x79, x80, x81, x82, x83, x84, x85, x86, x87, x88, x89, x90, x91, x92, x93, x94, x95, x96, x97, x98, x99, x100, x101, x102, x103, x104, x105, x106, x107, x108, x109, x110, x111, x112, x113, x114, x115, x116, x117, x118, x119, x120, x121, x122, x123, x124, x125, x126, x127, x128, x129, x130, x131, x132, x133, x134, x135, x136, x137, x138, x139, x140, x141, x142, x143, x144, x145, x146, x147, x148, x149, x150, x151, x152, x153, x154, x155, x156, x157, x158, x159, x160, x161, x162, x163, x164, x165, x166, x167, x168, x169, x170, x171, x172, x173, x174, x175, x176, x177, x178, x179, x180, x181, x182, x183, x184, x185, x186, x187, x188, x189, x190, x191, x192, x193, x194, x195, x196, x197, x198, x199, x200, x201, x202, x203, x204, x205, x206, x207, x208, x209, x210, x211, x212, x213, x214, x215, x216, x217, x218, x219, x220, x221, x222, x223, x224, x225, x226, x227, x228, x229, x230, x231, x232, x233, x234, x235, x236, x237, x238, x239, x240, x241, x242, x243, x244, x245, x246, x247, x248, x249, x250, x251, x252, x253, x254, x255, x256, x257, x258, x259, x260, x261, x262, x263, x264, x265, x266, x267, x268, x269, x270, x271, x272, x273, x274, x275, x276, x277, x278, x279, x280, x281, x282, x283, x284, x285, x286, x287, x288, x289, x290, x291, x292, x293, x294, x295, x296, x297, x298, x299, x300, x301, x302, x303, x304, x305, x306, x307, x308, x309, x310, x311, x312, x313, x314, x315, x316, x317, x318, x319, x320], []⟩ w := by
  obtain ⟨ia, rfl⟩ := Int.eq_ofNat_of_zero_le (insAt_a h hi)
  have hok := insAt_ok h.ok (by have := h.at_lt; have := h.ncode; omega : at_ < m.code.length)
  rw [hi] at hok
  dsimp only at hok
  have hAct : C.act conB m at_ s = C.step n s (floorT s.tries) 0 0 (decide (0 < s.height) && numAt m ibv) [ia, at_ + 1] := by
    have hn := h.ncode
    unfold PC.act
    rw [hi, hn]
    rfl
  have i0 := h.ibB.cell 0
  have i1 := h.ibB.cell 1
  have i2 := h.ibB.cell 2
  have s0 := h.sbB.cell 0
  have s1 := h.sbB.cell 1
  have s2 := h.sbB.cell 2
  have c0 := h.cbB.cell 0
  have k0 := h.mem.ck.cell 0
  have k3 := h.mem.ck.cell 3
  rw [hi] at i0 i1 i2
  simp only [List.getElem?_toArray, List.getElem?_cons_zero, List.getElem?_cons_succ] at i0 i1 i2 s0 s1 s2 c0 k0 k3
  have hat := h.at_lt
  have hn_ := h.n_
  have hht := h.ht
  have hpn := h.pn
  have htrl := h.trl
  obtain ⟨tA, tcp, htv⟩ := h.tr.val
  rw [htv] at s2
  rw [hAct] at hexit
  have H := hide h
  have HX := hide hexit
  clear h hexit hAct htv
  have HSA := hide (fun (W : World) (hW : Chg (fun _ => False) w.drew W) => (unhide H).step 0 0 (numAt m ibv) [ia, at_ + 1] (some ⟨W.heap.size, 0, none⟩) 2 (W.alloc (.cells ([ia, at_ + 1].map (fun t : Nat => intl (t : Int))).toArray 3)) (((Chg.refl _ w).drew.trans' hW).alloc _) (tos_new (unhide H).mem [ia, at_ + 1] (by simp) W ((Chg.refl _ w).drew.trans' hW)) (by simp <;> omega) (by simp) (by omega))
  have HSB := hide (fun (W : World) (hW : Chg (fun _ => False) (w.alloc (.cells ([ia, at_ + 1].map (fun t : Nat => intl (t : Int))).toArray 3)).drew W) => (unhide H).step 0 0 (numAt m ibv) [ia, at_ + 1] (some ⟨w.heap.size, 0, none⟩) 2 W (((Chg.refl _ w).alloc _).drew.trans' hW) (((Rd_drew (tos_new (unhide H).mem [ia, at_ + 1] (by simp) w (Chg.refl _ w))).chg hW (fun _ _ _ => id)).mono (fun k hk => TT.old hk hW.size)) (by simp <;> omega) (by simp) (by omega))
  have hcl := (unhide H).cbB.lt
  have hil := (unhide H).ibB.lt
  have hkl := (unhide H).mem.ck.lt
  have hsl := (unhide H).sbB.lt
  have hw1 : IntKind.i64.wrap ((at_ : Int) + 1) = (at_ : Int) + 1 := IntWalk.i64_in _ (by omega)
  have hbz : 0 ≤ ibv := hok.2.2.2.2.1
  have HCON := hide (fun (W : World) (hW : Chg (fun _ => False) w W) => show Calls Tryd.prog 49 #[.pointer (some ⟨c, 0, none⟩), .int .i64 ibv] W fun e w' => e = .returned (.bool (numAt m ibv)) ∧ Chg (fun _ => False) W w' from by
    have hcc := ckNum_any m ibv c n pc pA _ _ _ _ _ _ W hbz ((unhide H).mem.ck.chg hW id) ((unhide H).pl.chg hW (fun _ _ _ => id)) (by omega)
    skip
    exact hcc)
  have hd : decide (0 < s.height) = true := decide_eq_true hns
  rw [hd, Bool.true_and] at HX
  generalize hcv : numAt m ibv = cv at *
  conv => arg 2; whnf
  go_upto_region 55 with fail
  refine wp_region_noPanic ?_
  go_region_held3 (fun W' => W'.cell? ⟨ib, 1, none⟩ = some (.int .i64 (ia : Int)) ∧ W'.cell? ⟨ib, 2, none⟩ = some (.int .i64 ibv) ∧ W'.cell? ⟨sb, 1, none⟩ = some (.int .i64 s.height) ∧ W'.cell? ⟨cb, 0, none⟩ = some (.pointer (some ⟨c, 0, none⟩))) (first | exact unhide HKL | exact unhide HKK | go_keep) (first
    | (go_at_call 49; (first | refine (unhide HCON _ (Chg.refl _ w).drew).mono ?_ | refine (unhide HCON _ ((Chg.refl _ w).alloc _).drew).mono ?_); rintro e w2 ⟨rfl, hch⟩; obtain ⟨k1, k2, k3, k4⟩ := (unhide H).keeps ((by first | exact (Chg.refl _ w).drew | exact ((Chg.refl _ w).alloc _).drew : Chg (fun _ => False) w _).trans' hch); rw [hi] at k1; have HKK := hide (show w2.cell? ⟨ib, 1, none⟩ = some (.int .i64 (ia : Int)) ∧ w2.cell? ⟨ib, 2, none⟩ = some (.int .i64 ibv) ∧ w2.cell? ⟨sb, 1, none⟩ = some (.int .i64 s.height) ∧ w2.cell? ⟨cb, 0, none⟩ = some (.pointer (some ⟨c, 0, none⟩)) from ⟨k1.cell 1, k1.cell 2, k4.cell 1, k2.cell 0⟩); have HCH := hide hch; clear hch k1 k2 k3 k4)
    | (go_at_call 45; (first | refine (unhide HSA _ (unhide HCH)).mono ?_ | refine (unhide HSB _ (unhide HCH)).mono ?_); rintro e w3 ⟨rfl, hco⟩; obtain ⟨k1, k2, k3, k4⟩ := (unhide H).after hco; rw [hi] at k1; have HKL := hide (show w3.cell? ⟨ib, 1, none⟩ = some (.int .i64 (ia : Int)) ∧ w3.cell? ⟨ib, 2, none⟩ = some (.int .i64 ibv) ∧ w3.cell? ⟨sb, 1, none⟩ = some (.int .i64 s.height) ∧ w3.cell? ⟨cb, 0, none⟩ = some (.pointer (some ⟨c, 0, none⟩)) from ⟨k1.cell 1, k1.cell 2, k4.cell 1, k2.cell 0⟩); have HCO := hide hco; clear hco k1 k2 k3 k4))
  all_goals
    refine NoPanic.normal ?_
    try dsimp only
    go_wp2_with fail
    exact unhide HX _ _ (unhide HCO).more
theorem do_20_f (x3 x9 x10 x11 x12 x13 x14 x15 x16 x17 x18 x19 x20 x21 x22 x23 x24 x25 x26 x27 x28 x29 x30 x31 x32 x33 x34 x35 x36 x37 x38 x39 x40 x42 x43 x44 x45 x46 x47 x48 x49 x50 x51 x52 x53 x54 x55 x56 x57 x58 x59 x60 x61 x62 x63 x64 x65 x66 x67 x68 x69 x70 x71 x72 x73 x74 x75 x76 x77 x78 x79 x80 x81 x82 x83 x84 x85 x86 x87 x88 x89 x90 x91 x92 x93 x94 x95 x96 x97 x98 x99 x100 x101 x102 x103 x104 x105 x106 x107 x108 x109 x110 x111 x112 x113 x114 x115 x116 x117 x118 x119 x120 x121 x122 x123 x124 x125 x126 x127 x128 x129 x130 x131 x132 x133 x134 x135 x136 x137 x138 x139 x140 x141 x142 x143 x144 x145 x146 x147 x148 x149 x150 x151 x152 x153 x154 x155 x156 x157 x158 x159 x160 x161 x162 x163 x164 x165 x166 x167 x168 x169 x170 x171 x172 x173 x174 x175 x176 x177 x178 x179 x180 x181 x182 x183 x184 x185 x186 x187 x188 x189 x190 x191 x192 x193 x194 x195 x196 x197 x198 x199 x200 x201 x202 x203 x204 x205 x206 x207 x208 x209 x210 x211 x212 x213 x214 x215 x216 x217 x218 x219 x220 x221 x222 x223 x224 x225 x226 x227 x228 x229 x230 x231 x232 x233 x234 x235 x236 x237 x238 x239 x240 x241 x242 x243 x244 x245 x246 x247 x248 x249 x250 x251 x252 x253 x254 x255 x256 x257 x258 x259 x260 x261 x262 x263 x264 x265 x266 x267 x268 x269 x270 x271 x272 x273 x274 x275 x276 x277 x278 x279 x280 x281 x282 x283 x284 x285 x286 x287 x288 x289 x290 x291 x292 x293 x294 x295 x296 x297 x298 x299 x300 x301 x302 x303 x304 x305 x306 x307 x308 x309 x310 x311 x312 x313 x314 x315 x316 x317 x318 x319 x320 : Value) (w : World) (base c b mp n L : Nat) (m : Im) (pA cA : Option Addr) (pc cc : Nat) (v5 : Value) (f : I64 → Option Int) (cs : Array Value) (C : PC) (at_ : Nat) (s : PSt) (tv : Value) (cb ib sb fb : Nat) (ia ibv : Int)
    (h : DoSt w base c b mp n L m pA cA pc cc v5 f cs C at_ s tv cb ib sb fb) (hi : insAt m at_ = ⟨20, ia, ibv⟩) (hlow : s.height ≤ 0)
    (Q : Exit → Act → World → Prop) (hexit : ∀ (tmps : Array Value) (w' : World), COut w w' base c b mp n (L + 1) (.slice pA m.pool.length pc) (.slice cA n cc) v5 (C.act conB m at_ s) → Q .normal ⟨tmps, []⟩ w') :
    Code.wp Tryd.prog doC Q ⟨#[.pointer (some ⟨c, 0, none⟩), .int .i64 (at_ : Int), .pointer (some ⟨cb, 0, none⟩), x3, .pointer (some ⟨ib, 0, none⟩), .pointer (some ⟨sb, 0, none⟩), .pointer (some ⟨fb, 0, none⟩), .bool (s.of != -1), .func (.func 45) #[] #[.pointer (some ⟨sb, 0, none⟩), .pointer (some ⟨fb, 0, none⟩), .pointer (some ⟨cb, 0, none⟩)], x9, x10, x11, x12, x13, x14, x15, x16, x17, x18, x19, x20, x21, x22, x23, x24, x25, x26, x27, x28, x29, x30, x31, x32, x33, x34, x35, x36, x37, x38, x39, x40, .int .i64 20, x42, x43, x44, x45, x46, x47, x48, x49, x50, x51, x52, x53, x54, x55, x56, x57, x58, x59, x60, x61, x62, x63, x64, x65, x66, x67, x68, x69, x70, x71, x72, x73, x74, x75, x76, x77, x78, x79, x80, x81, x82, x83, x84, x85, x86, x87, x88, x89, x90, x91, x92, x93, x94, x95, x96, x97, x98, x99, x100, x101, x102, x103, x104, x105, x106, x107, x108, x109, x110, x111, x112, x113, x114, x115, x116, x117, x118, x119, x120, x121, x122, x123, x124, x125, x126, x127, x128, x129, x130, x131, x132, x133, x134, x135, x136, x137, x138, x139, x140, x141, x142, x143, x144, x145, x146, x147, x148, x149, x150, x151, x152, x153, x154, x155, x156, x157, x158, x159, x160, x161, x162, x163, x164, x165, x166, x167, x168, x169, x170, x171, x172, x173, x174, x175, x176, x177, x178, x179, x180, x181, x182, x183, x184, x185, x186, x187, x188, x189, x190, x191, x192, x193, x194, x195, x196, x197, x198, x199, x200, x201, x202, x203, x204, x205, x206, x207, x208, x209, x210, x211, x212, x213, x214, x215, x216, x217, x218, x219, x220, x221, x222, x223, x224, x225, x226, x227, x228, x229, x230, x231, x232, x233, x234, x235, x236, x237, x238, x239, x240, x241, x242, x243, x244, x245, x246, x247, x248, x249, x250, x251, x252, x253, x254, x255, x256, x257, x258, x259, x260, x261, x262, x263, x264, x265, x266, x267, x268, x269, x270, x271, x272, x273, x274, x275, x276, x277, x278, x279, x280, x281, x282, x283, x284, x285, x286, x287, x288, x289, x290, x291, x292, x293, x294, x295, x296, x297, x298, x299, x300, x301, x302, x303, x304, x305, x306, x307, x308, x309, x310, x311, x312, x313, x314, x315, x316, x317, x318, x319, x320], []⟩ w := by
  obtain ⟨ia, rfl⟩ := Int.eq_ofNat_of_zero_le (insAt_a h hi)
  have hok := insAt_ok h.ok (by have := h.at_lt; have := h.ncode; omega : at_ < m.code.length)
  rw [hi] at hok
  dsimp only at hok
  have hAct : C.act conB m at_ s = C.step n s (floorT s.tries) 0 0 (decide (0 < s.height) && numAt m ibv) [ia, at_ + 1] := by
    have hn := h.ncode
    unfold PC.act
    rw [hi, hn]
    rfl
  have i0 := h.ibB.cell 0
  have i1 := h.ibB.cell 1
  have i2 := h.ibB.cell 2
  have s0 := h.sbB.cell 0
  have s1 := h.sbB.cell 1
  have s2 := h.sbB.cell 2
  have c0 := h.cbB.cell 0
  have k0 := h.mem.ck.cell 0
  have k3 := h.mem.ck.cell 3
  rw [hi] at i0 i1 i2
  simp only [List.getElem?_toArray, List.getElem?_cons_zero, List.getElem?_cons_succ] at i0 i1 i2 s0 s1 s2 c0 k0 k3
  have hat := h.at_lt
  have hn_ := h.n_
  have hht := h.ht
  have hpn := h.pn
  have htrl := h.trl
  obtain ⟨tA, tcp, htv⟩ := h.tr.val
  rw [htv] at s2
  rw [hAct] at hexit
  have H := hide h
  have HX := hide hexit
  clear h hexit hAct htv
  have HS := hide ((unhide H).step 0 0 false [ia, at_ + 1] (some ⟨w.heap.size, 0, none⟩) 2 ((w.alloc (.cells ([ia, at_ + 1].map (fun t : Nat => intl (t : Int))).toArray 3)).drew) ((Chg.refl _ w).alloc _).drew (tos_new (unhide H).mem [ia, at_ + 1] (by simp) w (Chg.refl _ w)) (by simp <;> omega) (by simp) (by omega))
  have hcl := (unhide H).cbB.lt
  have hil := (unhide H).ibB.lt
  have hkl := (unhide H).mem.ck.lt
  have hsl := (unhide H).sbB.lt
  have hw1 : IntKind.i64.wrap ((at_ : Int) + 1) = (at_ : Int) + 1 := IntWalk.i64_in _ (by omega)
  have hns : ¬ 0 < s.height := by omega
  have hd : decide (0 < s.height) = false := decide_eq_false (by omega)
  rw [hd, Bool.false_and] at HX
  conv => arg 2; whnf
  go_upto_region 55 with fail
  refine wp_region_noPanic ?_
  refine wp_region_held_drew (S := fun W' => W'.cell? ⟨ib, 1, none⟩ = some (.int .i64 (ia : Int)) ∧ W'.cell? ⟨sb, 1, none⟩ = some (.int .i64 s.height)) (by kernel_rfl) ⟨i1, s1⟩ (fun hHeld => ?_)
  refine heldOn 0 (_) rfl (by kernel_rfl) (by kernel_rfl) (by kernel_rfl) (fun _ _ _ h => h) (by rfl) (fun w hSw => by obtain ⟨hz0, hz1⟩ := hSw; go_simp; rfl) (by assumption) ?_
  simp only [Act.put, List.setIfInBounds_toArray]
  refine heldOn 1 (_) rfl (by kernel_rfl) (by kernel_rfl) (by kernel_rfl) (fun _ _ _ h => h) (by rfl) (fun w hSw => by obtain ⟨hz0, hz1⟩ := hSw; go_simp; rfl) (by assumption) ?_
  simp only [Act.put]
  refine heldOn 2 (_) rfl (by kernel_rfl) (by kernel_rfl) (by kernel_rfl) (fun _ _ _ h => h) (by rfl) (fun w hSw => by obtain ⟨hz0, hz1⟩ := hSw; go_simp; rfl) (by assumption) ?_
  simp only [Act.put]
  refine heldOn 3 (.bool false) rfl (by kernel_rfl) (by kernel_rfl) (by kernel_rfl) (fun _ _ _ h => h) (by rfl) (fun w hSw => by obtain ⟨hz0, hz1⟩ := hSw; go_simp) (by assumption) ?_
  simp only [Act.put]
  refine heldOn 4 (_) rfl (by kernel_rfl) (by kernel_rfl) (by kernel_rfl) (fun _ _ _ h => h) (by rfl) (fun w hSw => by obtain ⟨hz0, hz1⟩ := hSw; go_simp; rfl) (by assumption) ?_
  simp only [Act.put]
  refine heldOff 5 rfl (by kernel_rfl) (by kernel_rfl) (by kernel_rfl) (fun _ _ _ h => h) (by kernel_rfl) (by assumption) ?_
  simp only [Act.put]
  refine heldOff 6 rfl (by kernel_rfl) (by kernel_rfl) (by kernel_rfl) (fun _ _ _ h => h) (by kernel_rfl) (by assumption) ?_
  simp only [Act.put]
  refine heldOff 7 rfl (by kernel_rfl) (by kernel_rfl) (by kernel_rfl) (fun _ _ _ h => h) (by kernel_rfl) (by assumption) ?_
  simp only [Act.put]
  refine heldOff 8 rfl (by kernel_rfl) (by kernel_rfl) (by kernel_rfl) (fun _ _ _ h => h) (by kernel_rfl) (by assumption) ?_
  simp only [Act.put]
  refine heldOn 9 (_) rfl (by kernel_rfl) (by kernel_rfl) (by kernel_rfl) (fun _ _ _ h => h) (by rfl) (fun w hSw => by obtain ⟨hz0, hz1⟩ := hSw; go_simp; rfl) (by assumption) ?_
  simp only [Act.put]
  refine heldOn 10 (_) rfl (by kernel_rfl) (by kernel_rfl) (by kernel_rfl) (fun _ _ _ h => h) (by rfl) (fun w hSw => by obtain ⟨hz0, hz1⟩ := hSw; go_simp; rfl) (by assumption) ?_
  simp only [Act.put]
  refine heldOn 11 (_) rfl (by kernel_rfl) (by kernel_rfl) (by kernel_rfl) (fun _ _ _ h => h) (by rfl) (fun w hSw => by obtain ⟨hz0, hz1⟩ := hSw; go_simp; rfl) (by assumption) ?_
  simp only [Act.put]
  refine heldOn 12 (_) rfl (by kernel_rfl) (by kernel_rfl) (by kernel_rfl) (fun _ _ _ h => h) (by rfl) (fun w hSw => by obtain ⟨hz0, hz1⟩ := hSw; go_simp; rfl) (by assumption) ?_
  simp only [Act.put]
  refine heldOn 13 (_) rfl (by kernel_rfl) (by kernel_rfl) (by kernel_rfl) (fun _ _ _ h => h) (by rfl) (fun w hSw => by obtain ⟨hz0, hz1⟩ := hSw; go_simp; rfl) (by assumption) ?_
  simp only [Act.put]
  refine wpAnyH_ready (rs := [14]) (by kernel_rfl) (by simp) ?_
  refine AllReadyH.cons (o := _) rfl (fun K hK => ?_) AllReadyH.nil
  go_simp
  refine hK.out _ _ ⟨by go_keep, by go_keep⟩ (fun hHeld => ?_)
  clear hK K
  refine wpAnyH_ready (rs := [15]) (by kernel_rfl) (by simp) ?_
  refine AllReadyH.cons (o := _) rfl (fun K hK => ?_) AllReadyH.nil
  go_simp
  go_wp2_with (first
    | (go_at_call 45; refine (unhide HS).mono ?_; rintro e w2 ⟨rfl, hco⟩; obtain ⟨k1, k2, k3, k4⟩ := (unhide H).after hco; rw [hi] at k1; have HKK := hide (show w2.cell? ⟨ib, 1, none⟩ = some (.int .i64 (ia : Int)) ∧ w2.cell? ⟨sb, 1, none⟩ = some (.int .i64 s.height) from ⟨k1.cell 1, k4.cell 1⟩); have HCO := hide hco; clear hco k1 k2 k3 k4))
  refine hK.out _ _ (unhide HKK) (fun hHeld2 => ?_)
  refine wpAnyH_done (by kernel_rfl) ?_ _
  refine NoPanic.normal ?_
  try dsimp only
  go_wp2_with fail
  exact unhide HX _ _ (unhide HCO).more
end Go.Proofs.YtejkaalhjocmgaaDoor
