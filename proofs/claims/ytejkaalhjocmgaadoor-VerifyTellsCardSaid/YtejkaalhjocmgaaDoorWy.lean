/-
  Layer 19: where an instruction is done: 14.
-/
import Derived.Test.YtejkaalhjocmgaaDoorWx
namespace Go.Proofs.YtejkaalhjocmgaaDoor
open Go.RowKit
set_option maxHeartbeats 1000000
set_option maxRecDepth 1000000
set_option maxHeartbeats 4000000
theorem do_14_e (x3 x9 x10 x11 x12 x13 x14 x15 x16 x17 x18 x19 x20 x21 x22 x23 x24 x25 x26 x27 x28 x29 x30 x31 x32 x33 x34 x35 x36 x37 x38 x39 x40 x42 x43 x44 x45 x46 x47 x48 x49 x50 x51 x52 x53 x54 x55 x56 x57 x58 x59 x60 x61 x62 x63 x64 x65 x66 x67 x68 x69 x70 x71 x72 x73 x74 x75 x76 x77 x78 x79 x80 x81 x82 x83 x84 x85 x86 x87 x88 x89 x90 x91 x92 x93 x94 x95 x96 x97 x98 x99 x100 x101 x102 x103 x104 x105 x106 x107 x108 x109 x110 x111 x112 x113 x114 x115 x116 x117 x118 x119 x120 x121 x122 x123 x124 x125 x126 x127 x128 x129 x130 x131 x132 x133 x134 x135 x136 x137 x138 x139 x140 x141 x142 x143 x144 x145 x146 x147 x148 x149 x150 x151 x152 x153 x154 x155 x156 x157 x158 x159 x160 x161 x162 x163 x164 x165 x166 x167 x168 x169 x170 x171 x172 x173 x174 x175 x176 x177 x178 x179 x180 x181 x182 x183 x184 x185 x186 x187 x188 x189 x190 x191 x192 x193 x194 x195 x196 x197 x198 x199 x200 x201 x202 x203 x204 x205 x206 x207 x208 x209 x210 x211 x212 x213 x214 x215 x216 x217 x218 x219 x220 x221 x222 x223 x224 x225 x226 x227 x228 x229 x230 x231 x232 x233 x234 x235 x236 x237 x238 x239 x240 x241 x242 x243 x244 x245 x246 x247 x248 x249 x250 x251 x252 x253 x254 x255 x256 x257 x258 x259 x260 x261 x262 x263 x264 x265 x266 x267 x268 x269 x270 x271 x272 x273 x274 x275 x276 x277 x278 x279 x280 x281 x282 x283 x284 x285 x286 x287 x288 x289 x290 x291 x292 x293 x294 x295 x296 x297 x298 x299 x300 x301 x302 x303 x304 x305 x306 x307 x308 x309 x310 x311 x312 x313 x314 x315 x316 x317 x318 x319 x320 : Value) (w : World) (base c b mp n L : Nat) (m : Im) (pA cA : Option Addr) (pc cc : Nat) (v5 : Value) (f : I64 → Option Int) (cs : Array Value) (C : PC) (at_ : Nat) (s : PSt) (tv : Value) (cb ib sb fb : Nat) (ia ibv : Int)
    (h : DoSt w base c b mp n L m pA cA pc cc v5 f cs C at_ s tv cb ib sb fb) (hi : insAt m at_ = ⟨14, ia, ibv⟩) (w0 : World) (hm0 : CMem w0 base c b mp n L (.slice pA m.pool.length pc) (.slice cA n cc) v5 f cs C) (hc0 : Chg (fun _ => False) w0 w) (hsb0 : w0.heap.size ≤ sb) (hfb0 : w0.heap.size ≤ fb) (he : s.tries = [])
    (Q : Exit → Act → World → Prop) (hexit : ∀ (tmps : Array Value) (w' : World), COut w0 w' base c b mp n (L + 1) (.slice pA m.pool.length pc) (.slice cA n cc) v5 (C.act conB m at_ s) → Q .normal ⟨tmps, []⟩ w') :
    Code.wp Tryd.prog doC Q ⟨#[.pointer (some ⟨c, 0, none⟩), .int .i64 (at_ : Int), .pointer (some ⟨cb, 0, none⟩), x3, .pointer (some ⟨ib, 0, none⟩), .pointer (some ⟨sb, 0, none⟩), .pointer (some ⟨fb, 0, none⟩), .bool (s.of != -1), .func (.func 45) #[] #[.pointer (some ⟨sb, 0, none⟩), .pointer (some ⟨fb, 0, none⟩), .pointer (some ⟨cb, 0, none⟩)], x9, x10, x11, x12, x13, x14, x15, x16, x17, x18, x19, x20, x21, x22, x23, x24, x25, x26, x27, x28, x29, x30, x31, x32, x33, x34, x35, x36, x37, x38, x39, x40, .int .i64 14, x42, x43, x44, x45, x46, x47, x48, x49, x50, x51, x52, x53, x54, x55, x56, x57, x58, x59, x60, x61, x62, x63, x64, x65, x66, x67, x68, x69, x70, x71, x72, x73, x74, x75, x76, x77, x78, x79, x80, x81, x82, x83, x84, x85, x86, x87, x88, x89, x90, x91, x92, x93, x94, x95, x96, x97, x98, x99, x100, x101, x102, x103, x104, x105, x106, x107, x108, x109, x110, x111, x112, x113, x114, x115, x116, x117, x118, x119, x120, x121, x122, x123, x124, x125, x126, x127, x128, x129, x130, x131, x132, x133, x134, x135, x136, x137, x138, x139, x140, x141, x142, x143, x144, x145, x146, x147, x148, x149, x150, x151, x152, x153, x154, x155, x156, x157, x158, x159, x160, x161, x162, x163, x164, x165, x166, x167, x168, x169, x170, x171, x172, x173, x174, x175, x176, x177, x178, x179, x180, x181, x182, x183, x184, x185, x186, x187, x188, x189, x190, x191, x192, x193, x194, x195, x196, x197, x198, x199, x200, x201, x202, x203, x204, x205, x206, x207, x208, x209, x210, x211, x212, x213, x214, x215, x216, x217, x218, x219, x220, x221, x222, x223, x224, x225, x226, x227, x228, x229, x230, x231, x232, x233, x234, x235, x236, x237, x238, x239, x240, x241, x242, x243, x244, x245, x246, x247, x248, x249, x250, x251, x252, x253, x254, x255, x256, x257, x258, x259, x260, x261, x262, x263, x264, x265, x266, x267, x268, x269, x270, x271, x272, x273, x274, x275, x276, x277, x278, x279, x280, x281, x282, x283, x284, x285, x286, x287, x288, x289, x290, x291, x292, x293, x294, x295, x296, x297, x298, x299, x300, x301, x302, x303, x304, x305, x306, x307, x308, x309, x310, x311, x312, x313, x314, x315, x316, x317, x318, x319, x320], []⟩ w := by
  have hok := insAt_ok h.ok (by have := h.at_lt; have := h.ncode; omega : at_ < m.code.length)
  rw [hi] at hok
  dsimp only at hok
  have hAct : C.act conB m at_ s = C.badly := by
    have hn := h.ncode
    unfold PC.act
    rw [hi]
    simp [he]
  have i0 := h.ibB.cell 0
  have i1 := h.ibB.cell 1
  have i2 := h.ibB.cell 2
  have s0 := h.sbB.cell 0
  have s1 := h.sbB.cell 1
  have s2 := h.sbB.cell 2
  have c0 := h.cbB.cell 0
  have k0 := h.mem.ck.cell 0
  have k3 := h.mem.ck.cell 3
  rw [hi] at i0 i1 i2
  simp only [List.getElem?_toArray, List.getElem?_cons_zero, List.getElem?_cons_succ] at i0 i1 i2 s0 s1 s2 c0 k0 k3
  have hat := h.at_lt
  have hn_ := h.n_
  have hht := h.ht
  have hpn := h.pn
  have htrl := h.trl
  obtain ⟨tA, tcp, htv⟩ := h.tr.val
  have htvv := htv
  rw [htv] at s2
  rw [hAct] at hexit
  have H := hide h
  have HX := hide hexit
  clear h hexit hAct htv
  have HCL := hide (show Calls Tryd.prog 47 #[.slice tA 0 tcp] w fun e w' => ∃ A' cp', e = .returned (.slice A' 0 cp') ∧ Chg (fun _ => False) w w' from by
    have hr := (unhide H).tr
    have htl := (unhide H).trl
    rw [he] at hr htl
    have hv2 : tv = .slice tA 0 tcp := by rw [htvv, he]; rfl
    rw [hv2] at hr
    refine (clone_any hr (by simp)).mono (fun e w' ⟨v', h1, h2, h3⟩ => ?_)
    obtain ⟨A', cp', h4, _⟩ := RdI.of_own h2 rfl
    exact ⟨A', cp', by rw [h1, h4]; rfl, Chg.of_below h3 _⟩)
  have hcl := (unhide H).cbB.lt
  have hil := (unhide H).ibB.lt
  have hkl := (unhide H).mem.ck.lt
  have hsl := (unhide H).sbB.lt
  have hw1 : IntKind.i64.wrap ((at_ : Int) + 1) = (at_ : Int) + 1 := IntWalk.i64_in _ (by omega)
  have hfl := (unhide H).fbB.lt
  rw [he] at s2
  have hv3 : tv = .slice tA 0 tcp := by rw [htvv, he]; rfl
  conv => arg 2; whnf
  go_wp2_with (first
    | (go_at_call 47; go_loud (refine (unhide HCL).mono ?_; rintro e w2 ⟨A', cp', rfl, hch⟩; obtain ⟨k1, k2, k3, k4⟩ := (unhide H).keeps hch; have j0 := k2.cell 0; have q2 := k4.cell 2; have f0 := ((unhide H).fbB.chg hch id).cell 0; have hmem := (unhide H).mem.old hch; have y5 := hmem.ck.cell 5; have nsf := Blk.ne_ k4 ((unhide H).fbB.chg hch id) (by decide); have nsk := Blk.ne_ k4 hmem.ck (by decide); have ncs := Blk.ne_ k4 k2 (by decide); simp only [List.getElem?_toArray, List.getElem?_cons_zero, List.getElem?_cons_succ] at j0 q2 f0 y5; have nfc := Blk.ne_ k2 ((unhide H).fbB.chg hch id) (by decide); have nfk := Blk.ne_ hmem.ck ((unhide H).fbB.chg hch id) (by decide); have q3 : (w2.setCell ⟨fb, 0, none⟩ (.int .i64 0)).cell? ⟨sb, 2, none⟩ = some (.slice tA 0 tcp) := (World.cell?_setCell_far _ _ _ _ (Ne.symm nsf)).trans (q2.trans (congrArg some hv3)); have q4 : ((w2.setCell ⟨fb, 0, none⟩ (.int .i64 0)).setCell ⟨sb, 2, none⟩ (.slice A' 0 cp')).cell? ⟨sb, 2, none⟩ = some (.slice A' 0 cp') := World.cell?_setCell_same' _ _ _ (Option.isSome_of_eq_some q3); have j5 : ((w2.setCell ⟨fb, 0, none⟩ (.int .i64 0)).setCell ⟨sb, 2, none⟩ (.slice A' 0 cp')).cell? ⟨cb, 0, none⟩ = some (.pointer (some ⟨c, 0, none⟩)) := (World.cell?_setCell_far _ _ _ _ ncs).trans ((World.cell?_setCell_far _ _ _ _ (Ne.symm nfc)).trans j0); have y6 : ((w2.setCell ⟨fb, 0, none⟩ (.int .i64 0)).setCell ⟨sb, 2, none⟩ (.slice A' 0 cp')).cell? ⟨c, 5, none⟩ = some (.bool C.bad) := (World.cell?_setCell_far _ _ _ _ nsk).trans ((World.cell?_setCell_far _ _ _ _ (Ne.symm nfk)).trans y5); have hch3 := (((hc0.trans' hch).setCell (p := ⟨fb, 0, none⟩) (fun hlt => absurd hlt (Nat.not_lt.2 hfb0)) (.int .i64 0)).setCell (p := ⟨sb, 2, none⟩) (fun hlt => absurd hlt (Nat.not_lt.2 hsb0)) (.slice A' 0 cp')); have HCB := hide (show COut w0 _ base c b mp n L (.slice pA m.pool.length pc) (.slice cA n cc) v5 C.badly from ⟨v5, f, cs, (hm0.old hch3).badly, (hch3.mono (fun _ _ h => h.elim)).setCell (fun _ => .inl rfl) _, .inl rfl⟩); have ffb := ((unhide H).fbB.chg hch id).frozen 0; have fsb := k4.frozen 2; have fck := hmem.ck.frozen 5; have HCH := hide hch; clear hch3 hch k1 k2 k3 k4 hmem)))
  all_goals exact unhide HX _ _ (unhide HCB).more
end Go.Proofs.YtejkaalhjocmgaaDoor
