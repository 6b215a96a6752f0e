/-
  Layer 19: where an instruction is done: 18.
-/
import Derived.Test.YtejkaalhjocmgaaDoorWv
namespace Go.Proofs.YtejkaalhjocmgaaDoor
open Go.RowKit
set_option maxHeartbeats 1000000
set_option maxRecDepth 1000000
set_option maxHeartbeats 4000000
theorem come_wl (n : Nat) (C : PC) (t : Nat) (s : PSt) : (C.come n t s).work.length ≤ C.work.length + 1 := by
  unfold PC.come
  split
  · exact Nat.le_succ _
  · split
    · split <;> exact Nat.le_succ _
    · simp
theorem step_wl (n : Nat) (s : PSt) (floor takes puts : Int) (holds : Bool) (tos : List Nat) (C : PC) : (C.step n s floor takes puts holds tos).work.length ≤ C.work.length + tos.length := by
  have aux : ∀ (s' : PSt) (tos : List Nat) (C : PC), (tos.foldl (fun C t => C.come n t s') C).work.length ≤ C.work.length + tos.length := by
    intro s' tos
    induction tos with
    | nil => intro C; exact Nat.le_refl _
    | cons t l ih =>
      intro C
      have h1 := ih (C.come n t s')
      have h2 := come_wl n C t s'
      rw [List.foldl_cons, List.length_cons]
      omega
  unfold PC.step
  split
  · exact Nat.le_add_right _ _
  · exact aux _ _ _
theorem COut.go_on {w w2 w3 : World} {base c b mp n L : Nat} {pv cv v5 v5' : Value} {C' : PC} (h2 : Chg (fun k => k = c ∨ k = b ∨ k = mp ∨ v5.ownBlock = some k) w w2) (hv : v5'.ownBlock = v5.ownBlock ∨ ∃ k, v5'.ownBlock = some k ∧ w.heap.size ≤ k) (h : COut w2 w3 base c b mp n L pv cv v5' C') : COut w w3 base c b mp n L pv cv v5 C' := by
  obtain ⟨v6, f, cs, m1, c1, o1⟩ := h
  have hz := h2.size
  refine ⟨v6, f, cs, m1, h2.trans c1 (fun i hi hs => ?_), ?_⟩
  · rcases hs with hs | hs | hs | hs
    · exact .inl hs
    · exact .inr (.inl hs)
    · exact .inr (.inr (.inl hs))
    · rcases hv with e | ⟨k, e, hk⟩
      · exact .inr (.inr (.inr (e.symm.trans hs)))
      · rw [e] at hs
        injection hs with hs
        omega
  · rcases o1 with e | ⟨k, e, hk⟩
    · rcases hv with e' | ⟨k, e', hk⟩
      · exact .inl (e.trans e')
      · exact .inr ⟨k, e.trans e', hk⟩
    · exact .inr ⟨k, e, by omega⟩
theorem do_18 (x3 x9 x10 x11 x12 x13 x14 x15 x16 x17 x18 x19 x20 x21 x22 x23 x24 x25 x26 x27 x28 x29 x30 x31 x32 x33 x34 x35 x36 x37 x38 x39 x40 x42 x43 x44 x45 x46 x47 x48 x49 x50 x51 x52 x53 x54 x55 x56 x57 x58 x59 x60 x61 x62 x63 x64 x65 x66 x67 x68 x69 x70 x71 x72 x73 x74 x75 x76 x77 x78 x79 x80 x81 x82 x83 x84 x85 x86 x87 x88 x89 x90 x91 x92 x93 x94 x95 x96 x97 x98 x99 x100 x101 x102 x103 x104 x105 x106 x107 x108 x109 x110 x111 x112 x113 x114 x115 x116 x117 x118 x119 x120 x121 x122 x123 x124 x125 x126 x127 x128 x129 x130 x131 x132 x133 x134 x135 x136 x137 x138 x139 x140 x141 x142 x143 x144 x145 x146 x147 x148 x149 x150 x151 x152 x153 x154 x155 x156 x157 x158 x159 x160 x161 x162 x163 x164 x165 x166 x167 x168 x169 x170 x171 x172 x173 x174 x175 x176 x177 x178 x179 x180 x181 x182 x183 x184 x185 x186 x187 x188 x189 x190 x191 x192 x193 x194 x195 x196 x197 x198 x199 x200 x201 x202 x203 x204 x205 x206 x207 x208 x209 x210 x211 x212 x213 x214 x215 x216 x217 x218 x219 x220 x221 x222 x223 x224 x225 x226 x227 x228 x229 x230 x231 x232 x233 x234 x235 x236 x237 x238 x239 x240 x241 x242 x243 x244 x245 x246 x247 x248 x249 x250 x251 x252 x253 x254 x255 x256 x257 x258 x259 x260 x261 x262 x263 x264 x265 x266 x267 x268 x269 x270 x271 x272 x273 x274 x275 x276 x277 x278 x279 x280 x281 x282 x283 x284 x285 x286 x287 x288 x289 x290 x291 x292 x293 x294 x295 x296 x297 x298 x299 x300 x301 x302 x303 x304 x305 x306 x307 x308 x309 x310 x311 x312 x313 x314 x315 x316 x317 x318 x319 x320 : Value) (w : World) (base c b mp n L : Nat) (m : Im) (pA cA : Option Addr) (pc cc : Nat) (v5 : Value) (f : I64 → Option Int) (cs : Array Value) (C : PC) (at_ : Nat) (s : PSt) (tv : Value) (cb ib sb fb : Nat) (ia ibv : Int)
    (h : DoSt w base c b mp n L m pA cA pc cc v5 f cs C at_ s tv cb ib sb fb) (hi : insAt m at_ = ⟨18, ia, ibv⟩) 
    (Q : Exit → Act → World → Prop) (hexit : ∀ (tmps : Array Value) (w' : World), COut w w' base c b mp n (L + 1) (.slice pA m.pool.length pc) (.slice cA n cc) v5 (C.act conB m at_ s) → Q .normal ⟨tmps, []⟩ w') :
    Code.wp Tryd.prog doC Q ⟨#[.pointer (some ⟨c, 0, none⟩), .int .i64 (at_ : Int), .pointer (some ⟨cb, 0, none⟩), x3, .pointer (some ⟨ib, 0, none⟩), .pointer (some ⟨sb, 0, none⟩), .pointer (some ⟨fb, 0, none⟩), .bool (s.of != -1), .func (.func 45) #[] #[.pointer (some ⟨sb, 0, none⟩), .pointer (some ⟨fb, 0, none⟩), .pointer (some ⟨cb, 0, none⟩)], x9, x10, x11, x12, x13, x14, x15, x16, x17, x18, x19, x20, x21, x22, x23, x24, x25, x26, x27, x28, x29, x30, x31, x32, x33, x34, x35, x36, x37, x38, x39, x40, .int .i64 18, x42, x43, x44, x45, x46, x47, x48, x49, x50, x51, x52, x53, x54, x55, x56, x57, x58, x59, x60, x61, x62, x63, x64, x65, x66, x67, x68, x69, x70, x71, x72, x73, x74, x75, x76, x77, x78, x79, x80, x81, x82, x83, x84, x85, x86, x87, x88, x89, x90, x91, x92, x93, x94, x95, x96, x97, x98, x99, x100, x101, x102, x103, x104, x105, x106, x107, x108, x109, x110, x111, x112, x113, x114, x115, x116, x117, x118, x119, x120, x121, x122, x123, x124, x125, x126, x127, x128, x129, x130, x131, x132, x133, x134, x135, x136, x137, x138, x139, x140, x141, x142, x143, x144, x145, x146, x147, x148, x149, x150, x151, x152, x153, x154, x155, x156, x157, x158, x159, x160, x161, x162, x163, x164, x165, x166, x167, x168, x169, x170, x171, x172, x173, x174, x175, x176, x177, x178, x179, x180, x181, x182, x183, x184, x185, x186, x187, x188, x189, x190, x191, x192, x193, x194, x195, x196, x197, x198, x199, x200, x201, x202, x203, x204, x205, x206, x207, x208, x209, x210, x211, x212, x213, x214, x215, x216, x217, x218, x219, x220, x221, x222, x223, x224, x225, x226, x227, x228, x229, x230, x231, x232, x233, x234, x235, x236, x237, x238, x239, x240, x241, x242, x243, x244, x245, x246, x247, x248, x249, x250, x251, x252, x253, x254, x255, x256, x257, x258, x259, x260, x261, x262, x263, x264, x265, x266, x267, x268, x269, x270, x271, x272, x273, x274, x275, x276, x277, x278, x279, x280, x281, x282, x283, x284, x285, x286, x287, x288, x289, x290, x291, x292, x293, x294, x295, x296, x297, x298, x299, x300, x301, x302, x303, x304, x305, x306, x307, x308, x309, x310, x311, x312, x313, x314, x315, x316, x317, x318, x319, x320], []⟩ w := by
  have hok := insAt_ok h.ok (by have := h.at_lt; have := h.ncode; omega : at_ < m.code.length)
  rw [hi] at hok
  dsimp only at hok
  have hAct : C.act conB m at_ s = (C.step n s (floorT s.tries) ibv 1 true [at_ + 1]).begin_ n ia ibv := by
    have hn := h.ncode
    unfold PC.act
    rw [hi, hn]
    rfl
  have i0 := h.ibB.cell 0
  have i1 := h.ibB.cell 1
  have i2 := h.ibB.cell 2
  have s0 := h.sbB.cell 0
  have s1 := h.sbB.cell 1
  have s2 := h.sbB.cell 2
  have c0 := h.cbB.cell 0
  have k0 := h.mem.ck.cell 0
  have k3 := h.mem.ck.cell 3
  rw [hi] at i0 i1 i2
  simp only [List.getElem?_toArray, List.getElem?_cons_zero, List.getElem?_cons_succ] at i0 i1 i2 s0 s1 s2 c0 k0 k3
  have hat := h.at_lt
  have hn_ := h.n_
  have hht := h.ht
  have hpn := h.pn
  have htrl := h.trl
  obtain ⟨tA, tcp, htv⟩ := h.tr.val
  rw [htv] at s2
  rw [hAct] at hexit
  have H := hide h
  have HX := hide hexit
  clear h hexit hAct htv
  have HS := hide ((unhide H).step ibv 1 true [at_ + 1] (some ⟨w.heap.size, 0, none⟩) 1 (w.alloc (.cells ([at_ + 1].map (fun t : Nat => intl (t : Int))).toArray 3)) ((Chg.refl _ w).alloc _) (tos_new (unhide H).mem [at_ + 1] (by simp) w (Chg.refl _ w)) (by simp <;> omega) (by simp) (by omega))
  have HB := hide (fun (w2 : World) (hco : COut w w2 base c b mp n L (.slice pA m.pool.length pc) (.slice cA n cc) v5 (C.step n s (floorT s.tries) ibv 1 true [at_ + 1])) => show Calls Tryd.prog 48 #[.pointer (some ⟨c, 0, none⟩), .int .i64 ia, .int .i64 ibv] w2 fun e w' => e = .returned (.tuple #[]) ∧ COut w w' base c b mp n (L + 1) (.slice pA m.pool.length pc) (.slice cA n cc) v5 ((C.step n s (floorT s.tries) ibv 1 true [at_ + 1]).begin_ n ia ibv) from by
    obtain ⟨v5', f', cs', h1, h2, h3⟩ := hco
    have hwk := step_wl n s (floorT s.tries) ibv 1 true [at_ + 1] C
    have hL := (unhide H).L_
    have hwk2 := (unhide H).wk_
    rw [List.length_singleton] at hwk
    exact (begin_any h1 ia ibv (by omega) (by omega) (by omega) (by omega) (by omega)).mono (fun e w' hh => ⟨hh.1, hh.2.go_on h2 h3⟩))
  have hcl := (unhide H).cbB.lt
  have hil := (unhide H).ibB.lt
  have hkl := (unhide H).mem.ck.lt
  have hsl := (unhide H).sbB.lt
  have hw1 : IntKind.i64.wrap ((at_ : Int) + 1) = (at_ : Int) + 1 := IntWalk.i64_in _ (by omega)
  conv => arg 2; whnf
  go_wp2_with (first
    | (go_at_call 45; refine (unhide HS).mono ?_; rintro e w2 ⟨rfl, hco⟩; obtain ⟨k1, k2, k3, k4⟩ := (unhide H).after hco; rw [hi] at k1; have j1 := k1.cell 1; have j2 := k1.cell 2; have j0 := k2.cell 0; simp only [List.getElem?_toArray, List.getElem?_cons_zero, List.getElem?_cons_succ] at j0 j1 j2; have HC2 := hide (unhide HB w2 hco); clear hco k1 k2 k3 k4)
    | (go_at_call 48; refine (unhide HC2).mono ?_; rintro e w3 ⟨rfl, hco⟩; have HCO := hide hco; clear hco))
  exact unhide HX _ _ (unhide HCO)
end Go.Proofs.YtejkaalhjocmgaaDoor
