/-
  Layer 19: where an instruction is done: what holds; the plain ones.
-/
import Derived.Test.YtejkaalhjocmgaaDoorWp
namespace Go.Proofs.YtejkaalhjocmgaaDoor
open Go.RowKit
set_option maxHeartbeats 1000000
set_option maxRecDepth 1000000
/-- The block of that number. -/
def findBlock (k : Nat) : Code → Option Code
  | .block i c => if i = k then some (.block i c) else findBlock k c
  | .loop c => findBlock k c
  | .seq a b => match findBlock k a with
    | some c => some c
    | none => findBlock k b
  | .scope c => findBlock k c
  | .cond _ a b => match findBlock k a with
    | some c => some c
    | none => findBlock k b
  | _ => none
noncomputable def doC : Code := (Tryd.f33.body.bind (findBlock 0)).getD .skip
/-- What holds where an instruction is done. -/
structure DoSt (w : World) (base c b mp n L : Nat) (m : Im) (pA cA : Option Addr) (pc cc : Nat) (v5 : Value) (f : I64 → Option Int) (cs : Array Value) (C : PC) (at_ : Nat) (s : PSt) (tv : Value) (cb ib sb fb : Nat) : Prop where
  mem : CMem w base c b mp n L (.slice pA m.pool.length pc) (.slice cA n cc) v5 f cs C
  ncode : n = m.code.length
  n_ : n ≤ 1000
  at_lt : at_ < n
  ok : CodeOk m
  L_ : L ≤ 100000
  wk_ : C.work.length ≤ 10000
  cbB : Blk w cb 64 #[.pointer (some ⟨c, 0, none⟩)]
  ibB : Blk w ib 42 #[.int .i64 (insAt m at_).op, .int .i64 (insAt m at_).a, .int .i64 (insAt m at_).b]
  sbB : Blk w sb 49 #[.int .i64 s.of, .int .i64 s.height, tv, .bool true]
  fbB : Blk w fb 3 #[.int .i64 (floorT s.tries)]
  cbT : TT w c b mp v5 cb
  ibT : TT w c b mp v5 ib
  sbT : TT w c b mp v5 sb
  fbT : TT w c b mp v5 fb
  tr : RdI (TT w c b mp v5) w tv s.tries
  trl : s.tries.length ≤ 900
  ht : 0 ≤ s.height ∧ s.height ≤ 1000
  of_ : -1 ≤ s.of ∧ s.of ≤ 100000000
  pl : Rd (TT w c b mp v5) w pA (m.pool.flatMap cstv)
  pn : m.pool.length ≤ 100000
  px : ∀ x ∈ m.pool, x.text.size ≤ 9223372036854775807
  lay : Lay w
  base_ : 3 ≤ base
theorem COut.pre {w W w' : World} {base c b mp n L : Nat} {pv cv v5 : Value} {C' : PC} (hc : Chg (fun _ => False) w W) (h : COut W w' base c b mp n L pv cv v5 C') : COut w w' base c b mp n L pv cv v5 C' := by
  obtain ⟨v5', f, cs', h1, h2, h3⟩ := h
  exact ⟨v5', f, cs', h1, (hc.mono (fun _ _ h => h.elim)).trans h2 (fun _ _ h => h), h3.imp id (fun ⟨k, e, hk⟩ => ⟨k, e, by have := hc.size; omega⟩)⟩
section
variable {w : World} {base c b mp n L : Nat} {m : Im} {pA cA : Option Addr} {pc cc : Nat} {v5 : Value} {f : I64 → Option Int} {cs : Array Value} {C : PC} {at_ : Nat} {s : PSt} {tv : Value} {cb ib sb fb : Nat}
/-- The step, wherever it is called. -/
theorem DoSt.step (h : DoSt w base c b mp n L m pA cA pc cc v5 f cs C at_ s tv cb ib sb fb) (takes puts : Int) (holds : Bool) (tos : List Nat) (A : Option Addr) (cp : Nat) (W : World) (hW : Chg (fun _ => False) w W) (hto : Rd (TT W c b mp v5) W A (tos.map (fun t : Nat => intl (t : Int)))) (htb : ∀ t ∈ tos, t ≤ 100000000) (htl : tos.length ≤ 10) (hb : -10000000 ≤ takes ∧ takes ≤ 10000000 ∧ -10 ≤ puts ∧ puts ≤ 10) :
    Calls Tryd.prog 45 #[.int .i64 takes, .int .i64 puts, .bool holds, .slice A tos.length cp, .pointer (some ⟨sb, 0, none⟩), .pointer (some ⟨fb, 0, none⟩), .pointer (some ⟨cb, 0, none⟩)] W fun e w' => e = .returned (.tuple #[]) ∧ COut w w' base c b mp n L (.slice pA m.pool.length pc) (.slice cA n cc) v5 (C.step n s (floorT s.tries) takes puts holds tos) := by
  have hm := h.mem.old hW
  have hz := hW.size
  have h1 := h.ht
  have h2 := h.trl
  have h3 := h.wk_
  have h4 := h.n_
  by_cases ho : holds = false ∨ s.height - takes < floorT s.tries
  · exact (step_out_any hm s tv true (floorT s.tries) takes puts holds tos A cp sb fb cb (h.sbB.chg hW id) (h.fbB.chg hW id) (h.cbB.chg hW id) (by omega) ho).mono (fun e w' hh => ⟨hh.1, hh.2.pre hW⟩)
  · obtain rfl : holds = true := by
      cases holds
      · exact absurd (.inl rfl) ho
      · rfl
    exact (step_in_any hm s tv true (floorT s.tries) takes puts tos A cp sb fb cb (h.sbB.chg hW id) (h.fbB.chg hW id) (h.cbB.chg hW id) (by omega) (fun e => ho (.inr e)) hto htb (by omega) (h.cbT.old hz) ((h.tr.chg hW (fun _ _ _ => id)).mono (fun t ht => ht.old hz)) (by omega) (by omega) (by omega)).mono (fun e w' hh => ⟨hh.1, hh.2.pre hW⟩)
/-- A row of places, new. -/
theorem tos_new (h : CMem w base c b mp n L (.slice pA m.pool.length pc) (.slice cA n cc) v5 f cs C) (tos : List Nat) (_hne : tos ≠ []) (W : World) (hW : Chg (fun _ => False) w W) : Rd (TT (W.alloc (.cells (tos.map (fun t : Nat => intl (t : Int))).toArray 3)) c b mp v5) (W.alloc (.cells (tos.map (fun t : Nat => intl (t : Int))).toArray 3)) (some ⟨W.heap.size, 0, none⟩) (tos.map (fun t : Nat => intl (t : Int))) := by
  have hz := hW.size
  refine (rd_new W W.heap.size 3 _ rfl).mono (fun k hk => ?_)
  obtain rfl : k = W.heap.size := hk
  refine ⟨by rw [size_alloc]; omega, fun e => ?_, fun e => ?_, fun e => ?_, fun e => ?_⟩
  · have := h.ck.lt; omega
  · have := h.ats.blk.lt; omega
  · obtain ⟨N, _, hm⟩ := h.mp_; have := hm.lt; omega
  · have := (h.wk.lt _ e).2; omega
end
theorem COut.more {w w' : World} {base c b mp n L : Nat} {pv cv v5 : Value} {C' : PC} (h : COut w w' base c b mp n L pv cv v5 C') : COut w w' base c b mp n (L + 1) pv cv v5 C' := by
  obtain ⟨v5', f, cs', h1, h2, h3⟩ := h
  obtain ⟨N, hN, hm⟩ := h1.mp_
  exact ⟨v5', f, cs', ⟨h1.ck, h1.ats, h1.len, ⟨N, by omega, hm⟩, h1.has, h1.wk, h1.tl, h1.base_⟩, h2, h3⟩
theorem insAt_a {w : World} {base c b mp n L : Nat} {m : Im} {pA cA : Option Addr} {pc cc : Nat} {v5 : Value} {f : I64 → Option Int} {cs : Array Value} {C : PC} {at_ : Nat} {s : PSt} {tv : Value} {cb ib sb fb : Nat} {op ia ibv : Int} (h : DoSt w base c b mp n L m pA cA pc cc v5 f cs C at_ s tv cb ib sb fb) (hi : insAt m at_ = ⟨op, ia, ibv⟩) : 0 ≤ ia := by
  have hok := insAt_ok h.ok (by have := h.at_lt; have := h.ncode; omega : at_ < m.code.length)
  rw [hi] at hok
  exact hok.2.2.1
theorem do_0 (x3 x9 x10 x11 x12 x13 x14 x15 x16 x17 x18 x19 x20 x21 x22 x23 x24 x25 x26 x27 x28 x29 x30 x31 x32 x33 x34 x35 x36 x37 x38 x39 x40 x42 x43 x44 x45 x46 x47 x48 x49 x50 x51 x52 x53 x54 x55 x56 x57 x58 x59 x60 x61 x62 x63 x64 x65 x66 x67 x68 x69 x70 x71 x72 x73 x74 x75 x76 x77 x78 x79 x80 x81 x82 x83 x84 x85 x86 x87 x88 x89 x90 x91 x92 x93 x94 x95 x96 x97 x98 x99 x100 x101 x102 x103 x104 x105 x106 x107 x108 x109 x110 x111 x112 x113 x114 x115 x116 x117 x118 x119 x120 x121 x122 x123 x124 x125 x126 x127 x128 x129 x130 x131 x132 x133 x134 x135 x136 x137 x138 x139 x140 x141 x142 x143 x144 x145 x146 x147 x148 x149 x150 x151 x152 x153 x154 x155 x156 x157 x158 x159 x160 x161 x162 x163 x164 x165 x166 x167 x168 x169 x170 x171 x172 x173 x174 x175 x176 x177 x178 x179 x180 x181 x182 x183 x184 x185 x186 x187 x188 x189 x190 x191 x192 x193 x194 x195 x196 x197 x198 x199 x200 x201 x202 x203 x204 x205 x206 x207 x208 x209 x210 x211 x212 x213 x214 x215 x216 x217 x218 x219 x220 x221 x222 x223 x224 x225 x226 x227 x228 x229 x230 x231 x232 x233 x234 x235 x236 x237 x238 x239 x240 x241 x242 x243 x244 x245 x246 x247 x248 x249 x250 x251 x252 x253 x254 x255 x256 x257 x258 x259 x260 x261 x262 x263 x264 x265 x266 x267 x268 x269 x270 x271 x272 x273 x274 x275 x276 x277 x278 x279 x280 x281 x282 x283 x284 x285 x286 x287 x288 x289 x290 x291 x292 x293 x294 x295 x296 x297 x298 x299 x300 x301 x302 x303 x304 x305 x306 x307 x308 x309 x310 x311 x312 x313 x314 x315 x316 x317 x318 x319 x320 : Value) (w : World) (base c b mp n L : Nat) (m : Im) (pA cA : Option Addr) (pc cc : Nat) (v5 : Value) (f : I64 → Option Int) (cs : Array Value) (C : PC) (at_ : Nat) (s : PSt) (tv : Value) (cb ib sb fb : Nat) (ia ibv : Int)
    (h : DoSt w base c b mp n L m pA cA pc cc v5 f cs C at_ s tv cb ib sb fb) (hi : insAt m at_ = ⟨0, ia, ibv⟩) 
    (Q : Exit → Act → World → Prop) (hexit : ∀ (tmps : Array Value) (w' : World), COut w w' base c b mp n (L + 1) (.slice pA m.pool.length pc) (.slice cA n cc) v5 (C.act conB m at_ s) → Q .normal ⟨tmps, []⟩ w') :
    Code.wp Tryd.prog doC Q ⟨#[.pointer (some ⟨c, 0, none⟩), .int .i64 (at_ : Int), .pointer (some ⟨cb, 0, none⟩), x3, .pointer (some ⟨ib, 0, none⟩), .pointer (some ⟨sb, 0, none⟩), .pointer (some ⟨fb, 0, none⟩), .bool (s.of != -1), .func (.func 45) #[] #[.pointer (some ⟨sb, 0, none⟩), .pointer (some ⟨fb, 0, none⟩), .pointer (some ⟨cb, 0, none⟩)], x9, x10, x11, x12, x13, x14, x15, x16, x17, x18, x19, x20, x21, x22, x23, x24, x25, x26, x27, x28, x29, x30, x31, x32, x33, x34, x35, x36, x37, x38, x39, x40, .int .i64 0, x42, x43, x44, x45, x46, x47, x48, x49, x50, x51, x52, x53, x54, x55, x56, x57, x58, x59, x60, x61, x62, x63, x64, x65, x66, x67, x68, x69, x70, x71, x72, x73, x74, x75, x76, x77, x78, x79, x80, x81, x82, x83, x84, x85, x86, x87, x88, x89, x90, x91, x92, x93, x94, x95, x96, x97, x98, x99, x100, x101, x102, x103, x104, x105, x106, x107, x108, x109, x110, x111, x112, x113, x114, x115, x116, x117, x118, x119, x120, x121, x122, x123, x124, x125, x126, x127, x128, x129, x130, x131, x132, x133, x134, x135, x136, x137, x138, x139, x140, x141, x142, x143, x144, x145, x146, x147, x148, x149, x150, x151, x152, x153, x154, x155, x156, x157, x158, x159, x160, x161, x162, x163, x164, x165, x166, x167, x168, x169, x170, x171, x172, x173, x174, x175, x176, x177, x178, x179, x180, x181, x182, x183, x184, x185, x186, x187, x188, x189, x190, x191, x192, x193, x194, x195, x196, x197, x198, x199, x200, x201, x202, x203, x204, x205, x206, x207, x208, x209, x210, x211, x212, x213, x214, x215, x216, x217, x218, x219, x220, x221, x222, x223, x224, x225, x226, x227, x228, x229, x230, x231, x232, x233, x234, x235, x236, x237, x238, x239, x240, x241, x242, x243, x244, x245, x246, x247, x248, x249, x250, x251, x252, x253, x254, x255, x256, x257, x258, x259, x260, x261, x262, x263, x264, x265, x266, x267, x268, x269, x270, x271, x272, x273, x274, x275, x276, x277, x278, x279, x280, x281, x282, x283, x284, x285, x286, x287, x288, x289, x290, x291, x292, x293, x294, x295, x296, x297, x298, x299, x300, x301, x302, x303, x304, x305, x306, x307, x308, x309, x310, x311, x312, x313, x314, x315, x316, x317, x318, x319, x320], []⟩ w := by
  have hok := insAt_ok h.ok (by have := h.at_lt; have := h.ncode; omega : at_ < m.code.length)
  rw [hi] at hok
  dsimp only at hok
  have hAct : C.act conB m at_ s = C.step n s (floorT s.tries) 1 0 (!(s.of != -1) && s.tries.isEmpty) [] := by
    have hn := h.ncode
    unfold PC.act
    rw [hi, hn]
    rfl
  have i0 := h.ibB.cell 0
  have i1 := h.ibB.cell 1
  have i2 := h.ibB.cell 2
  have s0 := h.sbB.cell 0
  have s1 := h.sbB.cell 1
  have s2 := h.sbB.cell 2
  have c0 := h.cbB.cell 0
  have k0 := h.mem.ck.cell 0
  have k3 := h.mem.ck.cell 3
  rw [hi] at i0 i1 i2
  simp only [List.getElem?_toArray, List.getElem?_cons_zero, List.getElem?_cons_succ] at i0 i1 i2 s0 s1 s2 c0 k0 k3
  have hat := h.at_lt
  have hn_ := h.n_
  have hht := h.ht
  have hpn := h.pn
  have htrl := h.trl
  obtain ⟨tA, tcp, htv⟩ := h.tr.val
  rw [htv] at s2
  rw [hAct] at hexit
  have H := hide h
  have HX := hide hexit
  clear h hexit hAct htv
  have HS := hide ((unhide H).step 1 0 (!(s.of != -1) && s.tries.isEmpty) [] none 0 w (Chg.refl _ w) (Rd.nil_ _ _ _) (by simp <;> omega) (by simp) (by omega))
  have hl0 : ((s.tries.length : Int) == 0) = s.tries.isEmpty := by
    cases s.tries with
    | nil => rfl
    | cons x l => exact beq_eq_false_iff_ne.2 (by rw [List.length_cons]; omega)
  generalize s.tries.isEmpty = em at *
  generalize (s.of != -1) = fn at *
  cases fn <;> cases em
  all_goals
    conv => arg 2; whnf
    go_wp2_with (go_at_call 45; refine (unhide HS).mono ?_; rintro e w2 ⟨rfl, hco⟩; have HCO := hide hco; clear hco)
    exact unhide HX _ _ (unhide HCO).more
theorem do_2 (x3 x9 x10 x11 x12 x13 x14 x15 x16 x17 x18 x19 x20 x21 x22 x23 x24 x25 x26 x27 x28 x29 x30 x31 x32 x33 x34 x35 x36 x37 x38 x39 x40 x42 x43 x44 x45 x46 x47 x48 x49 x50 x51 x52 x53 x54 x55 x56 x57 x58 x59 x60 x61 x62 x63 x64 x65 x66 x67 x68 x69 x70 x71 x72 x73 x74 x75 x76 x77 x78 x79 x80 x81 x82 x83 x84 x85 x86 x87 x88 x89 x90 x91 x92 x93 x94 x95 x96 x97 x98 x99 x100 x101 x102 x103 x104 x105 x106 x107 x108 x109 x110 x111 x112 x113 x114 x115 x116 x117 x118 x119 x120 x121 x122 x123 x124 x125 x126 x127 x128 x129 x130 x131 x132 x133 x134 x135 x136 x137 x138 x139 x140 x141 x142 x143 x144 x145 x146 x147 x148 x149 x150 x151 x152 x153 x154 x155 x156 x157 x158 x159 x160 x161 x162 x163 x164 x165 x166 x167 x168 x169 x170 x171 x172 x173 x174 x175 x176 x177 x178 x179 x180 x181 x182 x183 x184 x185 x186 x187 x188 x189 x190 x191 x192 x193 x194 x195 x196 x197 x198 x199 x200 x201 x202 x203 x204 x205 x206 x207 x208 x209 x210 x211 x212 x213 x214 x215 x216 x217 x218 x219 x220 x221 x222 x223 x224 x225 x226 x227 x228 x229 x230 x231 x232 x233 x234 x235 x236 x237 x238 x239 x240 x241 x242 x243 x244 x245 x246 x247 x248 x249 x250 x251 x252 x253 x254 x255 x256 x257 x258 x259 x260 x261 x262 x263 x264 x265 x266 x267 x268 x269 x270 x271 x272 x273 x274 x275 x276 x277 x278 x279 x280 x281 x282 x283 x284 x285 x286 x287 x288 x289 x290 x291 x292 x293 x294 x295 x296 x297 x298 x299 x300 x301 x302 x303 x304 x305 x306 x307 x308 x309 x310 x311 x312 x313 x314 x315 x316 x317 x318 x319 x320 : Value) (w : World) (base c b mp n L : Nat) (m : Im) (pA cA : Option Addr) (pc cc : Nat) (v5 : Value) (f : I64 → Option Int) (cs : Array Value) (C : PC) (at_ : Nat) (s : PSt) (tv : Value) (cb ib sb fb : Nat) (ia ibv : Int)
    (h : DoSt w base c b mp n L m pA cA pc cc v5 f cs C at_ s tv cb ib sb fb) (hi : insAt m at_ = ⟨2, ia, ibv⟩) 
    (Q : Exit → Act → World → Prop) (hexit : ∀ (tmps : Array Value) (w' : World), COut w w' base c b mp n (L + 1) (.slice pA m.pool.length pc) (.slice cA n cc) v5 (C.act conB m at_ s) → Q .normal ⟨tmps, []⟩ w') :
    Code.wp Tryd.prog doC Q ⟨#[.pointer (some ⟨c, 0, none⟩), .int .i64 (at_ : Int), .pointer (some ⟨cb, 0, none⟩), x3, .pointer (some ⟨ib, 0, none⟩), .pointer (some ⟨sb, 0, none⟩), .pointer (some ⟨fb, 0, none⟩), .bool (s.of != -1), .func (.func 45) #[] #[.pointer (some ⟨sb, 0, none⟩), .pointer (some ⟨fb, 0, none⟩), .pointer (some ⟨cb, 0, none⟩)], x9, x10, x11, x12, x13, x14, x15, x16, x17, x18, x19, x20, x21, x22, x23, x24, x25, x26, x27, x28, x29, x30, x31, x32, x33, x34, x35, x36, x37, x38, x39, x40, .int .i64 2, x42, x43, x44, x45, x46, x47, x48, x49, x50, x51, x52, x53, x54, x55, x56, x57, x58, x59, x60, x61, x62, x63, x64, x65, x66, x67, x68, x69, x70, x71, x72, x73, x74, x75, x76, x77, x78, x79, x80, x81, x82, x83, x84, x85, x86, x87, x88, x89, x90, x91, x92, x93, x94, x95, x96, x97, x98, x99, x100, x101, x102, x103, x104, x105, x106, x107, x108, x109, x110, x111, x112, x113, x114, x115, x116, x117, x118, x119, x120, x121, x122, x123, x124, x125, x126, x127, x128, x129, x130, x131, x132, x133, x134, x135, x136, x137, x138, x139, x140, x141, x142, x143, x144, x145, x146, x147, x148, x149, x150, x151, x152, x153, x154, x155, x156, x157, x158, x159, x160, x161, x162, x163, x164, x165, x166, x167, x168, x169, x170, x171, x172, x173, x174, x175, x176, x177, x178, x179, x180, x181, x182, x183, x184, x185, x186, x187, x188, x189, x190, x191, x192, x193, x194, x195, x196, x197, x198, x199, x200, x201, x202, x203, x204, x205, x206, x207, x208, x209, x210, x211, x212, x213, x214, x215, x216, x217, x218, x219, x220, x221, x222, x223, x224, x225, x226, x227, x228, x229, x230, x231, x232, x233, x234, x235, x236, x237, x238, x239, x240, x241, x242, x243, x244, x245, x246, x247, x248, x249, x250, x251, x252, x253, x254, x255, x256, x257, x258, x259, x260, x261, x262, x263, x264, x265, x266, x267, x268, x269, x270, x271, x272, x273, x274, x275, x276, x277, x278, x279, x280, x281, x282, x283, x284, x285, x286, x287, x288, x289, x290, x291, x292, x293, x294, x295, x296, x297, x298, x299, x300, x301, x302, x303, x304, x305, x306, x307, x308, x309, x310, x311, x312, x313, x314, x315, x316, x317, x318, x319, x320], []⟩ w := by
  have hok := insAt_ok h.ok (by have := h.at_lt; have := h.ncode; omega : at_ < m.code.length)
  rw [hi] at hok
  dsimp only at hok
  have hAct : C.act conB m at_ s = C.step n s (floorT s.tries) 0 1 (decide (ia < s.height)) [at_ + 1] := by
    have hn := h.ncode
    unfold PC.act
    rw [hi, hn]
    rfl
  have i0 := h.ibB.cell 0
  have i1 := h.ibB.cell 1
  have i2 := h.ibB.cell 2
  have s0 := h.sbB.cell 0
  have s1 := h.sbB.cell 1
  have s2 := h.sbB.cell 2
  have c0 := h.cbB.cell 0
  have k0 := h.mem.ck.cell 0
  have k3 := h.mem.ck.cell 3
  rw [hi] at i0 i1 i2
  simp only [List.getElem?_toArray, List.getElem?_cons_zero, List.getElem?_cons_succ] at i0 i1 i2 s0 s1 s2 c0 k0 k3
  have hat := h.at_lt
  have hn_ := h.n_
  have hht := h.ht
  have hpn := h.pn
  have htrl := h.trl
  obtain ⟨tA, tcp, htv⟩ := h.tr.val
  rw [htv] at s2
  rw [hAct] at hexit
  have H := hide h
  have HX := hide hexit
  clear h hexit hAct htv
  have HS := hide ((unhide H).step 0 1 (decide (ia < s.height)) [at_ + 1] (some ⟨w.heap.size, 0, none⟩) 1 (w.alloc (.cells ([at_ + 1].map (fun t : Nat => intl (t : Int))).toArray 3)) ((Chg.refl _ w).alloc _) (tos_new (unhide H).mem [at_ + 1] (by simp) w (Chg.refl _ w)) (by simp <;> omega) (by simp) (by omega))
  conv => arg 2; whnf
  go_wp2_with (go_at_call 45; refine (unhide HS).mono ?_; rintro e w2 ⟨rfl, hco⟩; have HCO := hide hco; clear hco)
  exact unhide HX _ _ (unhide HCO).more
theorem do_4 (x3 x9 x10 x11 x12 x13 x14 x15 x16 x17 x18 x19 x20 x21 x22 x23 x24 x25 x26 x27 x28 x29 x30 x31 x32 x33 x34 x35 x36 x37 x38 x39 x40 x42 x43 x44 x45 x46 x47 x48 x49 x50 x51 x52 x53 x54 x55 x56 x57 x58 x59 x60 x61 x62 x63 x64 x65 x66 x67 x68 x69 x70 x71 x72 x73 x74 x75 x76 x77 x78 x79 x80 x81 x82 x83 x84 x85 x86 x87 x88 x89 x90 x91 x92 x93 x94 x95 x96 x97 x98 x99 x100 x101 x102 x103 x104 x105 x106 x107 x108 x109 x110 x111 x112 x113 x114 x115 x116 x117 x118 x119 x120 x121 x122 x123 x124 x125 x126 x127 x128 x129 x130 x131 x132 x133 x134 x135 x136 x137 x138 x139 x140 x141 x142 x143 x144 x145 x146 x147 x148 x149 x150 x151 x152 x153 x154 x155 x156 x157 x158 x159 x160 x161 x162 x163 x164 x165 x166 x167 x168 x169 x170 x171 x172 x173 x174 x175 x176 x177 x178 x179 x180 x181 x182 x183 x184 x185 x186 x187 x188 x189 x190 x191 x192 x193 x194 x195 x196 x197 x198 x199 x200 x201 x202 x203 x204 x205 x206 x207 x208 x209 x210 x211 x212 x213 x214 x215 x216 x217 x218 x219 x220 x221 x222 x223 x224 x225 x226 x227 x228 x229 x230 x231 x232 x233 x234 x235 x236 x237 x238 x239 x240 x241 x242 x243 x244 x245 x246 x247 x248 x249 x250 x251 x252 x253 x254 x255 x256 x257 x258 x259 x260 x261 x262 x263 x264 x265 x266 x267 x268 x269 x270 x271 x272 x273 x274 x275 x276 x277 x278 x279 x280 x281 x282 x283 x284 x285 x286 x287 x288 x289 x290 x291 x292 x293 x294 x295 x296 x297 x298 x299 x300 x301 x302 x303 x304 x305 x306 x307 x308 x309 x310 x311 x312 x313 x314 x315 x316 x317 x318 x319 x320 : Value) (w : World) (base c b mp n L : Nat) (m : Im) (pA cA : Option Addr) (pc cc : Nat) (v5 : Value) (f : I64 → Option Int) (cs : Array Value) (C : PC) (at_ : Nat) (s : PSt) (tv : Value) (cb ib sb fb : Nat) (ia ibv : Int)
    (h : DoSt w base c b mp n L m pA cA pc cc v5 f cs C at_ s tv cb ib sb fb) (hi : insAt m at_ = ⟨4, ia, ibv⟩) 
    (Q : Exit → Act → World → Prop) (hexit : ∀ (tmps : Array Value) (w' : World), COut w w' base c b mp n (L + 1) (.slice pA m.pool.length pc) (.slice cA n cc) v5 (C.act conB m at_ s) → Q .normal ⟨tmps, []⟩ w') :
    Code.wp Tryd.prog doC Q ⟨#[.pointer (some ⟨c, 0, none⟩), .int .i64 (at_ : Int), .pointer (some ⟨cb, 0, none⟩), x3, .pointer (some ⟨ib, 0, none⟩), .pointer (some ⟨sb, 0, none⟩), .pointer (some ⟨fb, 0, none⟩), .bool (s.of != -1), .func (.func 45) #[] #[.pointer (some ⟨sb, 0, none⟩), .pointer (some ⟨fb, 0, none⟩), .pointer (some ⟨cb, 0, none⟩)], x9, x10, x11, x12, x13, x14, x15, x16, x17, x18, x19, x20, x21, x22, x23, x24, x25, x26, x27, x28, x29, x30, x31, x32, x33, x34, x35, x36, x37, x38, x39, x40, .int .i64 4, x42, x43, x44, x45, x46, x47, x48, x49, x50, x51, x52, x53, x54, x55, x56, x57, x58, x59, x60, x61, x62, x63, x64, x65, x66, x67, x68, x69, x70, x71, x72, x73, x74, x75, x76, x77, x78, x79, x80, x81, x82, x83, x84, x85, x86, x87, x88, x89, x90, x91, x92, x93, x94, x95, x96, x97, x98, x99, x100, x101, x102, x103, x104, x105, x106, x107, x108, x109, x110, x111, x112, x113, x114, x115, x116, x117, x118, x119, x120, x121, x122, x123, x124, x125, x126, x127, x128, x129, x130, x131, x132, x133, x134, x135, x136, x137, x138, x139, x140, x141, x142, x143, x144, x145, x146, x147, x148, x149, x150, x151, x152, x153, x154, x155, x156, x157, x158, x159, x160, x161, x162, x163, x164, x165, x166, x167, x168, x169, x170, x171, x172, x173, x174, x175, x176, x177, x178, x179, x180, x181, x182, x183, x184, x185, x186, x187, x188, x189, x190, x191, x192, x193, x194, x195, x196, x197, x198, x199, x200, x201, x202, x203, x204, x205, x206, x207, x208, x209, x210, x211, x212, x213, x214, x215, x216, x217, x218, x219, x220, x221, x222, x223, x224, x225, x226, x227, x228, x229, x230, x231, x232, x233, x234, x235, x236, x237, x238, x239, x240, x241, x242, x243, x244, x245, x246, x247, x248, x249, x250, x251, x252, x253, x254, x255, x256, x257, x258, x259, x260, x261, x262, x263, x264, x265, x266, x267, x268, x269, x270, x271, x272, x273, x274, x275, x276, x277, x278, x279, x280, x281, x282, x283, x284, x285, x286, x287, x288, x289, x290, x291, x292, x293, x294, x295, x296, x297, x298, x299, x300, x301, x302, x303, x304, x305, x306, x307, x308, x309, x310, x311, x312, x313, x314, x315, x316, x317, x318, x319, x320], []⟩ w := by
  have hok := insAt_ok h.ok (by have := h.at_lt; have := h.ncode; omega : at_ < m.code.length)
  rw [hi] at hok
  dsimp only at hok
  have hAct : C.act conB m at_ s = C.step n s (floorT s.tries) 0 1 (s.of != -1) [at_ + 1] := by
    have hn := h.ncode
    unfold PC.act
    rw [hi, hn]
    rfl
  have i0 := h.ibB.cell 0
  have i1 := h.ibB.cell 1
  have i2 := h.ibB.cell 2
  have s0 := h.sbB.cell 0
  have s1 := h.sbB.cell 1
  have s2 := h.sbB.cell 2
  have c0 := h.cbB.cell 0
  have k0 := h.mem.ck.cell 0
  have k3 := h.mem.ck.cell 3
  rw [hi] at i0 i1 i2
  simp only [List.getElem?_toArray, List.getElem?_cons_zero, List.getElem?_cons_succ] at i0 i1 i2 s0 s1 s2 c0 k0 k3
  have hat := h.at_lt
  have hn_ := h.n_
  have hht := h.ht
  have hpn := h.pn
  have htrl := h.trl
  obtain ⟨tA, tcp, htv⟩ := h.tr.val
  rw [htv] at s2
  rw [hAct] at hexit
  have H := hide h
  have HX := hide hexit
  clear h hexit hAct htv
  have HS := hide ((unhide H).step 0 1 (s.of != -1) [at_ + 1] (some ⟨w.heap.size, 0, none⟩) 1 (w.alloc (.cells ([at_ + 1].map (fun t : Nat => intl (t : Int))).toArray 3)) ((Chg.refl _ w).alloc _) (tos_new (unhide H).mem [at_ + 1] (by simp) w (Chg.refl _ w)) (by simp <;> omega) (by simp) (by omega))
  conv => arg 2; whnf
  go_wp2_with (go_at_call 45; refine (unhide HS).mono ?_; rintro e w2 ⟨rfl, hco⟩; have HCO := hide hco; clear hco)
  exact unhide HX _ _ (unhide HCO).more
theorem do_5 (x3 x9 x10 x11 x12 x13 x14 x15 x16 x17 x18 x19 x20 x21 x22 x23 x24 x25 x26 x27 x28 x29 x30 x31 x32 x33 x34 x35 x36 x37 x38 x39 x40 x42 x43 x44 x45 x46 x47 x48 x49 x50 x51 x52 x53 x54 x55 x56 x57 x58 x59 x60 x61 x62 x63 x64 x65 x66 x67 x68 x69 x70 x71 x72 x73 x74 x75 x76 x77 x78 x79 x80 x81 x82 x83 x84 x85 x86 x87 x88 x89 x90 x91 x92 x93 x94 x95 x96 x97 x98 x99 x100 x101 x102 x103 x104 x105 x106 x107 x108 x109 x110 x111 x112 x113 x114 x115 x116 x117 x118 x119 x120 x121 x122 x123 x124 x125 x126 x127 x128 x129 x130 x131 x132 x133 x134 x135 x136 x137 x138 x139 x140 x141 x142 x143 x144 x145 x146 x147 x148 x149 x150 x151 x152 x153 x154 x155 x156 x157 x158 x159 x160 x161 x162 x163 x164 x165 x166 x167 x168 x169 x170 x171 x172 x173 x174 x175 x176 x177 x178 x179 x180 x181 x182 x183 x184 x185 x186 x187 x188 x189 x190 x191 x192 x193 x194 x195 x196 x197 x198 x199 x200 x201 x202 x203 x204 x205 x206 x207 x208 x209 x210 x211 x212 x213 x214 x215 x216 x217 x218 x219 x220 x221 x222 x223 x224 x225 x226 x227 x228 x229 x230 x231 x232 x233 x234 x235 x236 x237 x238 x239 x240 x241 x242 x243 x244 x245 x246 x247 x248 x249 x250 x251 x252 x253 x254 x255 x256 x257 x258 x259 x260 x261 x262 x263 x264 x265 x266 x267 x268 x269 x270 x271 x272 x273 x274 x275 x276 x277 x278 x279 x280 x281 x282 x283 x284 x285 x286 x287 x288 x289 x290 x291 x292 x293 x294 x295 x296 x297 x298 x299 x300 x301 x302 x303 x304 x305 x306 x307 x308 x309 x310 x311 x312 x313 x314 x315 x316 x317 x318 x319 x320 : Value) (w : World) (base c b mp n L : Nat) (m : Im) (pA cA : Option Addr) (pc cc : Nat) (v5 : Value) (f : I64 → Option Int) (cs : Array Value) (C : PC) (at_ : Nat) (s : PSt) (tv : Value) (cb ib sb fb : Nat) (ia ibv : Int)
    (h : DoSt w base c b mp n L m pA cA pc cc v5 f cs C at_ s tv cb ib sb fb) (hi : insAt m at_ = ⟨5, ia, ibv⟩) 
    (Q : Exit → Act → World → Prop) (hexit : ∀ (tmps : Array Value) (w' : World), COut w w' base c b mp n (L + 1) (.slice pA m.pool.length pc) (.slice cA n cc) v5 (C.act conB m at_ s) → Q .normal ⟨tmps, []⟩ w') :
    Code.wp Tryd.prog doC Q ⟨#[.pointer (some ⟨c, 0, none⟩), .int .i64 (at_ : Int), .pointer (some ⟨cb, 0, none⟩), x3, .pointer (some ⟨ib, 0, none⟩), .pointer (some ⟨sb, 0, none⟩), .pointer (some ⟨fb, 0, none⟩), .bool (s.of != -1), .func (.func 45) #[] #[.pointer (some ⟨sb, 0, none⟩), .pointer (some ⟨fb, 0, none⟩), .pointer (some ⟨cb, 0, none⟩)], x9, x10, x11, x12, x13, x14, x15, x16, x17, x18, x19, x20, x21, x22, x23, x24, x25, x26, x27, x28, x29, x30, x31, x32, x33, x34, x35, x36, x37, x38, x39, x40, .int .i64 5, x42, x43, x44, x45, x46, x47, x48, x49, x50, x51, x52, x53, x54, x55, x56, x57, x58, x59, x60, x61, x62, x63, x64, x65, x66, x67, x68, x69, x70, x71, x72, x73, x74, x75, x76, x77, x78, x79, x80, x81, x82, x83, x84, x85, x86, x87, x88, x89, x90, x91, x92, x93, x94, x95, x96, x97, x98, x99, x100, x101, x102, x103, x104, x105, x106, x107, x108, x109, x110, x111, x112, x113, x114, x115, x116, x117, x118, x119, x120, x121, x122, x123, x124, x125, x126, x127, x128, x129, x130, x131, x132, x133, x134, x135, x136, x137, x138, x139, x140, x141, x142, x143, x144, x145, x146, x147, x148, x149, x150, x151, x152, x153, x154, x155, x156, x157, x158, x159, x160, x161, x162, x163, x164, x165, x166, x167, x168, x169, x170, x171, x172, x173, x174, x175, x176, x177, x178, x179, x180, x181, x182, x183, x184, x185, x186, x187, x188, x189, x190, x191, x192, x193, x194, x195, x196, x197, x198, x199, x200, x201, x202, x203, x204, x205, x206, x207, x208, x209, x210, x211, x212, x213, x214, x215, x216, x217, x218, x219, x220, x221, x222, x223, x224, x225, x226, x227, x228, x229, x230, x231, x232, x233, x234, x235, x236, x237, x238, x239, x240, x241, x242, x243, x244, x245, x246, x247, x248, x249, x250, x251, x252, x253, x254, x255, x256, x257, x258, x259, x260, x261, x262, x263, x264, x265, x266, x267, x268, x269, x270, x271, x272, x273, x274, x275, x276, x277, x278, x279, x280, x281, x282, x283, x284, x285, x286, x287, x288, x289, x290, x291, x292, x293, x294, x295, x296, x297, x298, x299, x300, x301, x302, x303, x304, x305, x306, x307, x308, x309, x310, x311, x312, x313, x314, x315, x316, x317, x318, x319, x320], []⟩ w := by
  have hok := insAt_ok h.ok (by have := h.at_lt; have := h.ncode; omega : at_ < m.code.length)
  rw [hi] at hok
  dsimp only at hok
  have hAct : C.act conB m at_ s = C.step n s (floorT s.tries) ia 0 true [at_ + 1] := by
    have hn := h.ncode
    unfold PC.act
    rw [hi, hn]
    rfl
  have i0 := h.ibB.cell 0
  have i1 := h.ibB.cell 1
  have i2 := h.ibB.cell 2
  have s0 := h.sbB.cell 0
  have s1 := h.sbB.cell 1
  have s2 := h.sbB.cell 2
  have c0 := h.cbB.cell 0
  have k0 := h.mem.ck.cell 0
  have k3 := h.mem.ck.cell 3
  rw [hi] at i0 i1 i2
  simp only [List.getElem?_toArray, List.getElem?_cons_zero, List.getElem?_cons_succ] at i0 i1 i2 s0 s1 s2 c0 k0 k3
  have hat := h.at_lt
  have hn_ := h.n_
  have hht := h.ht
  have hpn := h.pn
  have htrl := h.trl
  obtain ⟨tA, tcp, htv⟩ := h.tr.val
  rw [htv] at s2
  rw [hAct] at hexit
  have H := hide h
  have HX := hide hexit
  clear h hexit hAct htv
  have HS := hide ((unhide H).step ia 0 true [at_ + 1] (some ⟨w.heap.size, 0, none⟩) 1 (w.alloc (.cells ([at_ + 1].map (fun t : Nat => intl (t : Int))).toArray 3)) ((Chg.refl _ w).alloc _) (tos_new (unhide H).mem [at_ + 1] (by simp) w (Chg.refl _ w)) (by simp <;> omega) (by simp) (by omega))
  conv => arg 2; whnf
  go_wp2_with (go_at_call 45; refine (unhide HS).mono ?_; rintro e w2 ⟨rfl, hco⟩; have HCO := hide hco; clear hco)
  exact unhide HX _ _ (unhide HCO).more
theorem do_6 (x3 x9 x10 x11 x12 x13 x14 x15 x16 x17 x18 x19 x20 x21 x22 x23 x24 x25 x26 x27 x28 x29 x30 x31 x32 x33 x34 x35 x36 x37 x38 x39 x40 x42 x43 x44 x45 x46 x47 x48 x49 x50 x51 x52 x53 x54 x55 x56 x57 x58 x59 x60 x61 x62 x63 x64 x65 x66 x67 x68 x69 x70 x71 x72 x73 x74 x75 x76 x77 x78 x79 x80 x81 x82 x83 x84 x85 x86 x87 x88 x89 x90 x91 x92 x93 x94 x95 x96 x97 x98 x99 x100 x101 x102 x103 x104 x105 x106 x107 x108 x109 x110 x111 x112 x113 x114 x115 x116 x117 x118 x119 x120 x121 x122 x123 x124 x125 x126 x127 x128 x129 x130 x131 x132 x133 x134 x135 x136 x137 x138 x139 x140 x141 x142 x143 x144 x145 x146 x147 x148 x149 x150 x151 x152 x153 x154 x155 x156 x157 x158 x159 x160 x161 x162 x163 x164 x165 x166 x167 x168 x169 x170 x171 x172 x173 x174 x175 x176 x177 x178 x179 x180 x181 x182 x183 x184 x185 x186 x187 x188 x189 x190 x191 x192 x193 x194 x195 x196 x197 x198 x199 x200 x201 x202 x203 x204 x205 x206 x207 x208 x209 x210 x211 x212 x213 x214 x215 x216 x217 x218 x219 x220 x221 x222 x223 x224 x225 x226 x227 x228 x229 x230 x231 x232 x233 x234 x235 x236 x237 x238 x239 x240 x241 x242 x243 x244 x245 x246 x247 x248 x249 x250 x251 x252 x253 x254 x255 x256 x257 x258 x259 x260 x261 x262 x263 x264 x265 x266 x267 x268 x269 x270 x271 x272 x273 x274 x275 x276 x277 x278 x279 x280 x281 x282 x283 x284 x285 x286 x287 x288 x289 x290 x291 x292 x293 x294 x295 x296 x297 x298 x299 x300 x301 x302 x303 x304 x305 x306 x307 x308 x309 x310 x311 x312 x313 x314 x315 x316 x317 x318 x319 x320 : Value) (w : World) (base c b mp n L : Nat) (m : Im) (pA cA : Option Addr) (pc cc : Nat) (v5 : Value) (f : I64 → Option Int) (cs : Array Value) (C : PC) (at_ : Nat) (s : PSt) (tv : Value) (cb ib sb fb : Nat) (ia ibv : Int)
    (h : DoSt w base c b mp n L m pA cA pc cc v5 f cs C at_ s tv cb ib sb fb) (hi : insAt m at_ = ⟨6, ia, ibv⟩) 
    (Q : Exit → Act → World → Prop) (hexit : ∀ (tmps : Array Value) (w' : World), COut w w' base c b mp n (L + 1) (.slice pA m.pool.length pc) (.slice cA n cc) v5 (C.act conB m at_ s) → Q .normal ⟨tmps, []⟩ w') :
    Code.wp Tryd.prog doC Q ⟨#[.pointer (some ⟨c, 0, none⟩), .int .i64 (at_ : Int), .pointer (some ⟨cb, 0, none⟩), x3, .pointer (some ⟨ib, 0, none⟩), .pointer (some ⟨sb, 0, none⟩), .pointer (some ⟨fb, 0, none⟩), .bool (s.of != -1), .func (.func 45) #[] #[.pointer (some ⟨sb, 0, none⟩), .pointer (some ⟨fb, 0, none⟩), .pointer (some ⟨cb, 0, none⟩)], x9, x10, x11, x12, x13, x14, x15, x16, x17, x18, x19, x20, x21, x22, x23, x24, x25, x26, x27, x28, x29, x30, x31, x32, x33, x34, x35, x36, x37, x38, x39, x40, .int .i64 6, x42, x43, x44, x45, x46, x47, x48, x49, x50, x51, x52, x53, x54, x55, x56, x57, x58, x59, x60, x61, x62, x63, x64, x65, x66, x67, x68, x69, x70, x71, x72, x73, x74, x75, x76, x77, x78, x79, x80, x81, x82, x83, x84, x85, x86, x87, x88, x89, x90, x91, x92, x93, x94, x95, x96, x97, x98, x99, x100, x101, x102, x103, x104, x105, x106, x107, x108, x109, x110, x111, x112, x113, x114, x115, x116, x117, x118, x119, x120, x121, x122, x123, x124, x125, x126, x127, x128, x129, x130, x131, x132, x133, x134, x135, x136, x137, x138, x139, x140, x141, x142, x143, x144, x145, x146, x147, x148, x149, x150, x151, x152, x153, x154, x155, x156, x157, x158, x159, x160, x161, x162, x163, x164, x165, x166, x167, x168, x169, x170, x171, x172, x173, x174, x175, x176, x177, x178, x179, x180, x181, x182, x183, x184, x185, x186, x187, x188, x189, x190, x191, x192, x193, x194, x195, x196, x197, x198, x199, x200, x201, x202, x203, x204, x205, x206, x207, x208, x209, x210, x211, x212, x213, x214, x215, x216, x217, x218, x219, x220, x221, x222, x223, x224, x225, x226, x227, x228, x229, x230, x231, x232, x233, x234, x235, x236, x237, x238, x239, x240, x241, x242, x243, x244, x245, x246, x247, x248, x249, x250, x251, x252, x253, x254, x255, x256, x257, x258, x259, x260, x261, x262, x263, x264, x265, x266, x267, x268, x269, x270, x271, x272, x273, x274, x275, x276, x277, x278, x279, x280, x281, x282, x283, x284, x285, x286, x287, x288, x289, x290, x291, x292, x293, x294, x295, x296, x297, x298, x299, x300, x301, x302, x303, x304, x305, x306, x307, x308, x309, x310, x311, x312, x313, x314, x315, x316, x317, x318, x319, x320], []⟩ w := by
  have hok := insAt_ok h.ok (by have := h.at_lt; have := h.ncode; omega : at_ < m.code.length)
  rw [hi] at hok
  dsimp only at hok
  have hAct : C.act conB m at_ s = C.step n s (floorT s.tries) (ia + 1) 1 true [at_ + 1] := by
    have hn := h.ncode
    unfold PC.act
    rw [hi, hn]
    rfl
  have i0 := h.ibB.cell 0
  have i1 := h.ibB.cell 1
  have i2 := h.ibB.cell 2
  have s0 := h.sbB.cell 0
  have s1 := h.sbB.cell 1
  have s2 := h.sbB.cell 2
  have c0 := h.cbB.cell 0
  have k0 := h.mem.ck.cell 0
  have k3 := h.mem.ck.cell 3
  rw [hi] at i0 i1 i2
  simp only [List.getElem?_toArray, List.getElem?_cons_zero, List.getElem?_cons_succ] at i0 i1 i2 s0 s1 s2 c0 k0 k3
  have hat := h.at_lt
  have hn_ := h.n_
  have hht := h.ht
  have hpn := h.pn
  have htrl := h.trl
  obtain ⟨tA, tcp, htv⟩ := h.tr.val
  rw [htv] at s2
  rw [hAct] at hexit
  have H := hide h
  have HX := hide hexit
  clear h hexit hAct htv
  have HS := hide ((unhide H).step (ia + 1) 1 true [at_ + 1] (some ⟨w.heap.size, 0, none⟩) 1 (w.alloc (.cells ([at_ + 1].map (fun t : Nat => intl (t : Int))).toArray 3)) ((Chg.refl _ w).alloc _) (tos_new (unhide H).mem [at_ + 1] (by simp) w (Chg.refl _ w)) (by simp <;> omega) (by simp) (by omega))
  conv => arg 2; whnf
  go_wp2_with (go_at_call 45; refine (unhide HS).mono ?_; rintro e w2 ⟨rfl, hco⟩; have HCO := hide hco; clear hco)
  exact unhide HX _ _ (unhide HCO).more
theorem do_7 (x3 x9 x10 x11 x12 x13 x14 x15 x16 x17 x18 x19 x20 x21 x22 x23 x24 x25 x26 x27 x28 x29 x30 x31 x32 x33 x34 x35 x36 x37 x38 x39 x40 x42 x43 x44 x45 x46 x47 x48 x49 x50 x51 x52 x53 x54 x55 x56 x57 x58 x59 x60 x61 x62 x63 x64 x65 x66 x67 x68 x69 x70 x71 x72 x73 x74 x75 x76 x77 x78 x79 x80 x81 x82 x83 x84 x85 x86 x87 x88 x89 x90 x91 x92 x93 x94 x95 x96 x97 x98 x99 x100 x101 x102 x103 x104 x105 x106 x107 x108 x109 x110 x111 x112 x113 x114 x115 x116 x117 x118 x119 x120 x121 x122 x123 x124 x125 x126 x127 x128 x129 x130 x131 x132 x133 x134 x135 x136 x137 x138 x139 x140 x141 x142 x143 x144 x145 x146 x147 x148 x149 x150 x151 x152 x153 x154 x155 x156 x157 x158 x159 x160 x161 x162 x163 x164 x165 x166 x167 x168 x169 x170 x171 x172 x173 x174 x175 x176 x177 x178 x179 x180 x181 x182 x183 x184 x185 x186 x187 x188 x189 x190 x191 x192 x193 x194 x195 x196 x197 x198 x199 x200 x201 x202 x203 x204 x205 x206 x207 x208 x209 x210 x211 x212 x213 x214 x215 x216 x217 x218 x219 x220 x221 x222 x223 x224 x225 x226 x227 x228 x229 x230 x231 x232 x233 x234 x235 x236 x237 x238 x239 x240 x241 x242 x243 x244 x245 x246 x247 x248 x249 x250 x251 x252 x253 x254 x255 x256 x257 x258 x259 x260 x261 x262 x263 x264 x265 x266 x267 x268 x269 x270 x271 x272 x273 x274 x275 x276 x277 x278 x279 x280 x281 x282 x283 x284 x285 x286 x287 x288 x289 x290 x291 x292 x293 x294 x295 x296 x297 x298 x299 x300 x301 x302 x303 x304 x305 x306 x307 x308 x309 x310 x311 x312 x313 x314 x315 x316 x317 x318 x319 x320 : Value) (w : World) (base c b mp n L : Nat) (m : Im) (pA cA : Option Addr) (pc cc : Nat) (v5 : Value) (f : I64 → Option Int) (cs : Array Value) (C : PC) (at_ : Nat) (s : PSt) (tv : Value) (cb ib sb fb : Nat) (ia ibv : Int)
    (h : DoSt w base c b mp n L m pA cA pc cc v5 f cs C at_ s tv cb ib sb fb) (hi : insAt m at_ = ⟨7, ia, ibv⟩) 
    (Q : Exit → Act → World → Prop) (hexit : ∀ (tmps : Array Value) (w' : World), COut w w' base c b mp n (L + 1) (.slice pA m.pool.length pc) (.slice cA n cc) v5 (C.act conB m at_ s) → Q .normal ⟨tmps, []⟩ w') :
    Code.wp Tryd.prog doC Q ⟨#[.pointer (some ⟨c, 0, none⟩), .int .i64 (at_ : Int), .pointer (some ⟨cb, 0, none⟩), x3, .pointer (some ⟨ib, 0, none⟩), .pointer (some ⟨sb, 0, none⟩), .pointer (some ⟨fb, 0, none⟩), .bool (s.of != -1), .func (.func 45) #[] #[.pointer (some ⟨sb, 0, none⟩), .pointer (some ⟨fb, 0, none⟩), .pointer (some ⟨cb, 0, none⟩)], x9, x10, x11, x12, x13, x14, x15, x16, x17, x18, x19, x20, x21, x22, x23, x24, x25, x26, x27, x28, x29, x30, x31, x32, x33, x34, x35, x36, x37, x38, x39, x40, .int .i64 7, x42, x43, x44, x45, x46, x47, x48, x49, x50, x51, x52, x53, x54, x55, x56, x57, x58, x59, x60, x61, x62, x63, x64, x65, x66, x67, x68, x69, x70, x71, x72, x73, x74, x75, x76, x77, x78, x79, x80, x81, x82, x83, x84, x85, x86, x87, x88, x89, x90, x91, x92, x93, x94, x95, x96, x97, x98, x99, x100, x101, x102, x103, x104, x105, x106, x107, x108, x109, x110, x111, x112, x113, x114, x115, x116, x117, x118, x119, x120, x121, x122, x123, x124, x125, x126, x127, x128, x129, x130, x131, x132, x133, x134, x135, x136, x137, x138, x139, x140, x141, x142, x143, x144, x145, x146, x147, x148, x149, x150, x151, x152, x153, x154, x155, x156, x157, x158, x159, x160, x161, x162, x163, x164, x165, x166, x167, x168, x169, x170, x171, x172, x173, x174, x175, x176, x177, x178, x179, x180, x181, x182, x183, x184, x185, x186, x187, x188, x189, x190, x191, x192, x193, x194, x195, x196, x197, x198, x199, x200, x201, x202, x203, x204, x205, x206, x207, x208, x209, x210, x211, x212, x213, x214, x215, x216, x217, x218, x219, x220, x221, x222, x223, x224, x225, x226, x227, x228, x229, x230, x231, x232, x233, x234, x235, x236, x237, x238, x239, x240, x241, x242, x243, x244, x245, x246, x247, x248, x249, x250, x251, x252, x253, x254, x255, x256, x257, x258, x259, x260, x261, x262, x263, x264, x265, x266, x267, x268, x269, x270, x271, x272, x273, x274, x275, x276, x277, x278, x279, x280, x281, x282, x283, x284, x285, x286, x287, x288, x289, x290, x291, x292, x293, x294, x295, x296, x297, x298, x299, x300, x301, x302, x303, x304, x305, x306, x307, x308, x309, x310, x311, x312, x313, x314, x315, x316, x317, x318, x319, x320], []⟩ w := by
  have hok := insAt_ok h.ok (by have := h.at_lt; have := h.ncode; omega : at_ < m.code.length)
  rw [hi] at hok
  dsimp only at hok
  have hAct : C.act conB m at_ s = C.step n s (floorT s.tries) 2 1 true [at_ + 1] := by
    have hn := h.ncode
    unfold PC.act
    rw [hi, hn]
    rfl
  have i0 := h.ibB.cell 0
  have i1 := h.ibB.cell 1
  have i2 := h.ibB.cell 2
  have s0 := h.sbB.cell 0
  have s1 := h.sbB.cell 1
  have s2 := h.sbB.cell 2
  have c0 := h.cbB.cell 0
  have k0 := h.mem.ck.cell 0
  have k3 := h.mem.ck.cell 3
  rw [hi] at i0 i1 i2
  simp only [List.getElem?_toArray, List.getElem?_cons_zero, List.getElem?_cons_succ] at i0 i1 i2 s0 s1 s2 c0 k0 k3
  have hat := h.at_lt
  have hn_ := h.n_
  have hht := h.ht
  have hpn := h.pn
  have htrl := h.trl
  obtain ⟨tA, tcp, htv⟩ := h.tr.val
  rw [htv] at s2
  rw [hAct] at hexit
  have H := hide h
  have HX := hide hexit
  clear h hexit hAct htv
  have HS := hide ((unhide H).step 2 1 true [at_ + 1] (some ⟨w.heap.size, 0, none⟩) 1 (w.alloc (.cells ([at_ + 1].map (fun t : Nat => intl (t : Int))).toArray 3)) ((Chg.refl _ w).alloc _) (tos_new (unhide H).mem [at_ + 1] (by simp) w (Chg.refl _ w)) (by simp <;> omega) (by simp) (by omega))
  conv => arg 2; whnf
  go_wp2_with (go_at_call 45; refine (unhide HS).mono ?_; rintro e w2 ⟨rfl, hco⟩; have HCO := hide hco; clear hco)
  exact unhide HX _ _ (unhide HCO).more
theorem do_8 (x3 x9 x10 x11 x12 x13 x14 x15 x16 x17 x18 x19 x20 x21 x22 x23 x24 x25 x26 x27 x28 x29 x30 x31 x32 x33 x34 x35 x36 x37 x38 x39 x40 x42 x43 x44 x45 x46 x47 x48 x49 x50 x51 x52 x53 x54 x55 x56 x57 x58 x59 x60 x61 x62 x63 x64 x65 x66 x67 x68 x69 x70 x71 x72 x73 x74 x75 x76 x77 x78 x79 x80 x81 x82 x83 x84 x85 x86 x87 x88 x89 x90 x91 x92 x93 x94 x95 x96 x97 x98 x99 x100 x101 x102 x103 x104 x105 x106 x107 x108 x109 x110 x111 x112 x113 x114 x115 x116 x117 x118 x119 x120 x121 x122 x123 x124 x125 x126 x127 x128 x129 x130 x131 x132 x133 x134 x135 x136 x137 x138 x139 x140 x141 x142 x143 x144 x145 x146 x147 x148 x149 x150 x151 x152 x153 x154 x155 x156 x157 x158 x159 x160 x161 x162 x163 x164 x165 x166 x167 x168 x169 x170 x171 x172 x173 x174 x175 x176 x177 x178 x179 x180 x181 x182 x183 x184 x185 x186 x187 x188 x189 x190 x191 x192 x193 x194 x195 x196 x197 x198 x199 x200 x201 x202 x203 x204 x205 x206 x207 x208 x209 x210 x211 x212 x213 x214 x215 x216 x217 x218 x219 x220 x221 x222 x223 x224 x225 x226 x227 x228 x229 x230 x231 x232 x233 x234 x235 x236 x237 x238 x239 x240 x241 x242 x243 x244 x245 x246 x247 x248 x249 x250 x251 x252 x253 x254 x255 x256 x257 x258 x259 x260 x261 x262 x263 x264 x265 x266 x267 x268 x269 x270 x271 x272 x273 x274 x275 x276 x277 x278 x279 x280 x281 x282 x283 x284 x285 x286 x287 x288 x289 x290 x291 x292 x293 x294 x295 x296 x297 x298 x299 x300 x301 x302 x303 x304 x305 x306 x307 x308 x309 x310 x311 x312 x313 x314 x315 x316 x317 x318 x319 x320 : Value) (w : World) (base c b mp n L : Nat) (m : Im) (pA cA : Option Addr) (pc cc : Nat) (v5 : Value) (f : I64 → Option Int) (cs : Array Value) (C : PC) (at_ : Nat) (s : PSt) (tv : Value) (cb ib sb fb : Nat) (ia ibv : Int)
    (h : DoSt w base c b mp n L m pA cA pc cc v5 f cs C at_ s tv cb ib sb fb) (hi : insAt m at_ = ⟨8, ia, ibv⟩) 
    (Q : Exit → Act → World → Prop) (hexit : ∀ (tmps : Array Value) (w' : World), COut w w' base c b mp n (L + 1) (.slice pA m.pool.length pc) (.slice cA n cc) v5 (C.act conB m at_ s) → Q .normal ⟨tmps, []⟩ w') :
    Code.wp Tryd.prog doC Q ⟨#[.pointer (some ⟨c, 0, none⟩), .int .i64 (at_ : Int), .pointer (some ⟨cb, 0, none⟩), x3, .pointer (some ⟨ib, 0, none⟩), .pointer (some ⟨sb, 0, none⟩), .pointer (some ⟨fb, 0, none⟩), .bool (s.of != -1), .func (.func 45) #[] #[.pointer (some ⟨sb, 0, none⟩), .pointer (some ⟨fb, 0, none⟩), .pointer (some ⟨cb, 0, none⟩)], x9, x10, x11, x12, x13, x14, x15, x16, x17, x18, x19, x20, x21, x22, x23, x24, x25, x26, x27, x28, x29, x30, x31, x32, x33, x34, x35, x36, x37, x38, x39, x40, .int .i64 8, x42, x43, x44, x45, x46, x47, x48, x49, x50, x51, x52, x53, x54, x55, x56, x57, x58, x59, x60, x61, x62, x63, x64, x65, x66, x67, x68, x69, x70, x71, x72, x73, x74, x75, x76, x77, x78, x79, x80, x81, x82, x83, x84, x85, x86, x87, x88, x89, x90, x91, x92, x93, x94, x95, x96, x97, x98, x99, x100, x101, x102, x103, x104, x105, x106, x107, x108, x109, x110, x111, x112, x113, x114, x115, x116, x117, x118, x119, x120, x121, x122, x123, x124, x125, x126, x127, x128, x129, x130, x131, x132, x133, x134, x135, x136, x137, x138, x139, x140, x141, x142, x143, x144, x145, x146, x147, x148, x149, x150, x151, x152, x153, x154, x155, x156, x157, x158, x159, x160, x161, x162, x163, x164, x165, x166, x167, x168, x169, x170, x171, x172, x173, x174, x175, x176, x177, x178, x179, x180, x181, x182, x183, x184, x185, x186, x187, x188, x189, x190, x191, x192, x193, x194, x195, x196, x197, x198, x199, x200, x201, x202, x203, x204, x205, x206, x207, x208, x209, x210, x211, x212, x213, x214, x215, x216, x217, x218, x219, x220, x221, x222, x223, x224, x225, x226, x227, x228, x229, x230, x231, x232, x233, x234, x235, x236, x237, x238, x239, x240, x241, x242, x243, x244, x245, x246, x247, x248, x249, x250, x251, x252, x253, x254, x255, x256, x257, x258, x259, x260, x261, x262, x263, x264, x265, x266, x267, x268, x269, x270, x271, x272, x273, x274, x275, x276, x277, x278, x279, x280, x281, x282, x283, x284, x285, x286, x287, x288, x289, x290, x291, x292, x293, x294, x295, x296, x297, x298, x299, x300, x301, x302, x303, x304, x305, x306, x307, x308, x309, x310, x311, x312, x313, x314, x315, x316, x317, x318, x319, x320], []⟩ w := by
  have hok := insAt_ok h.ok (by have := h.at_lt; have := h.ncode; omega : at_ < m.code.length)
  rw [hi] at hok
  dsimp only at hok
  have hAct : C.act conB m at_ s = C.step n s (floorT s.tries) 2 0 ((s.of != -1) && s.tries.isEmpty) [] := by
    have hn := h.ncode
    unfold PC.act
    rw [hi, hn]
    rfl
  have i0 := h.ibB.cell 0
  have i1 := h.ibB.cell 1
  have i2 := h.ibB.cell 2
  have s0 := h.sbB.cell 0
  have s1 := h.sbB.cell 1
  have s2 := h.sbB.cell 2
  have c0 := h.cbB.cell 0
  have k0 := h.mem.ck.cell 0
  have k3 := h.mem.ck.cell 3
  rw [hi] at i0 i1 i2
  simp only [List.getElem?_toArray, List.getElem?_cons_zero, List.getElem?_cons_succ] at i0 i1 i2 s0 s1 s2 c0 k0 k3
  have hat := h.at_lt
  have hn_ := h.n_
  have hht := h.ht
  have hpn := h.pn
  have htrl := h.trl
  obtain ⟨tA, tcp, htv⟩ := h.tr.val
  rw [htv] at s2
  rw [hAct] at hexit
  have H := hide h
  have HX := hide hexit
  clear h hexit hAct htv
  have HS := hide ((unhide H).step 2 0 ((s.of != -1) && s.tries.isEmpty) [] none 0 w (Chg.refl _ w) (Rd.nil_ _ _ _) (by simp <;> omega) (by simp) (by omega))
  have hl0 : ((s.tries.length : Int) == 0) = s.tries.isEmpty := by
    cases s.tries with
    | nil => rfl
    | cons x l => exact beq_eq_false_iff_ne.2 (by rw [List.length_cons]; omega)
  generalize s.tries.isEmpty = em at *
  generalize (s.of != -1) = fn at *
  cases fn <;> cases em
  all_goals
    conv => arg 2; whnf
    go_wp2_with (go_at_call 45; refine (unhide HS).mono ?_; rintro e w2 ⟨rfl, hco⟩; have HCO := hide hco; clear hco)
    exact unhide HX _ _ (unhide HCO).more
theorem do_9 (x3 x9 x10 x11 x12 x13 x14 x15 x16 x17 x18 x19 x20 x21 x22 x23 x24 x25 x26 x27 x28 x29 x30 x31 x32 x33 x34 x35 x36 x37 x38 x39 x40 x42 x43 x44 x45 x46 x47 x48 x49 x50 x51 x52 x53 x54 x55 x56 x57 x58 x59 x60 x61 x62 x63 x64 x65 x66 x67 x68 x69 x70 x71 x72 x73 x74 x75 x76 x77 x78 x79 x80 x81 x82 x83 x84 x85 x86 x87 x88 x89 x90 x91 x92 x93 x94 x95 x96 x97 x98 x99 x100 x101 x102 x103 x104 x105 x106 x107 x108 x109 x110 x111 x112 x113 x114 x115 x116 x117 x118 x119 x120 x121 x122 x123 x124 x125 x126 x127 x128 x129 x130 x131 x132 x133 x134 x135 x136 x137 x138 x139 x140 x141 x142 x143 x144 x145 x146 x147 x148 x149 x150 x151 x152 x153 x154 x155 x156 x157 x158 x159 x160 x161 x162 x163 x164 x165 x166 x167 x168 x169 x170 x171 x172 x173 x174 x175 x176 x177 x178 x179 x180 x181 x182 x183 x184 x185 x186 x187 x188 x189 x190 x191 x192 x193 x194 x195 x196 x197 x198 x199 x200 x201 x202 x203 x204 x205 x206 x207 x208 x209 x210 x211 x212 x213 x214 x215 x216 x217 x218 x219 x220 x221 x222 x223 x224 x225 x226 x227 x228 x229 x230 x231 x232 x233 x234 x235 x236 x237 x238 x239 x240 x241 x242 x243 x244 x245 x246 x247 x248 x249 x250 x251 x252 x253 x254 x255 x256 x257 x258 x259 x260 x261 x262 x263 x264 x265 x266 x267 x268 x269 x270 x271 x272 x273 x274 x275 x276 x277 x278 x279 x280 x281 x282 x283 x284 x285 x286 x287 x288 x289 x290 x291 x292 x293 x294 x295 x296 x297 x298 x299 x300 x301 x302 x303 x304 x305 x306 x307 x308 x309 x310 x311 x312 x313 x314 x315 x316 x317 x318 x319 x320 : Value) (w : World) (base c b mp n L : Nat) (m : Im) (pA cA : Option Addr) (pc cc : Nat) (v5 : Value) (f : I64 → Option Int) (cs : Array Value) (C : PC) (at_ : Nat) (s : PSt) (tv : Value) (cb ib sb fb : Nat) (ia ibv : Int)
    (h : DoSt w base c b mp n L m pA cA pc cc v5 f cs C at_ s tv cb ib sb fb) (hi : insAt m at_ = ⟨9, ia, ibv⟩) 
    (Q : Exit → Act → World → Prop) (hexit : ∀ (tmps : Array Value) (w' : World), COut w w' base c b mp n (L + 1) (.slice pA m.pool.length pc) (.slice cA n cc) v5 (C.act conB m at_ s) → Q .normal ⟨tmps, []⟩ w') :
    Code.wp Tryd.prog doC Q ⟨#[.pointer (some ⟨c, 0, none⟩), .int .i64 (at_ : Int), .pointer (some ⟨cb, 0, none⟩), x3, .pointer (some ⟨ib, 0, none⟩), .pointer (some ⟨sb, 0, none⟩), .pointer (some ⟨fb, 0, none⟩), .bool (s.of != -1), .func (.func 45) #[] #[.pointer (some ⟨sb, 0, none⟩), .pointer (some ⟨fb, 0, none⟩), .pointer (some ⟨cb, 0, none⟩)], x9, x10, x11, x12, x13, x14, x15, x16, x17, x18, x19, x20, x21, x22, x23, x24, x25, x26, x27, x28, x29, x30, x31, x32, x33, x34, x35, x36, x37, x38, x39, x40, .int .i64 9, x42, x43, x44, x45, x46, x47, x48, x49, x50, x51, x52, x53, x54, x55, x56, x57, x58, x59, x60, x61, x62, x63, x64, x65, x66, x67, x68, x69, x70, x71, x72, x73, x74, x75, x76, x77, x78, x79, x80, x81, x82, x83, x84, x85, x86, x87, x88, x89, x90, x91, x92, x93, x94, x95, x96, x97, x98, x99, x100, x101, x102, x103, x104, x105, x106, x107, x108, x109, x110, x111, x112, x113, x114, x115, x116, x117, x118, x119, x120, x121, x122, x123, x124, x125, x126, x127, x128, x129, x130, x131, x132, x133, x134, x135, x136, x137, x138, x139, x140, x141, x142, x143, x144, x145, x146, x147, x148, x149, x150, x151, x152, x153, x154, x155, x156, x157, x158, x159, x160, x161, x162, x163, x164, x165, x166, x167, x168, x169, x170, x171, x172, x173, x174, x175, x176, x177, x178, x179, x180, x181, x182, x183, x184, x185, x186, x187, x188, x189, x190, x191, x192, x193, x194, x195, x196, x197, x198, x199, x200, x201, x202, x203, x204, x205, x206, x207, x208, x209, x210, x211, x212, x213, x214, x215, x216, x217, x218, x219, x220, x221, x222, x223, x224, x225, x226, x227, x228, x229, x230, x231, x232, x233, x234, x235, x236, x237, x238, x239, x240, x241, x242, x243, x244, x245, x246, x247, x248, x249, x250, x251, x252, x253, x254, x255, x256, x257, x258, x259, x260, x261, x262, x263, x264, x265, x266, x267, x268, x269, x270, x271, x272, x273, x274, x275, x276, x277, x278, x279, x280, x281, x282, x283, x284, x285, x286, x287, x288, x289, x290, x291, x292, x293, x294, x295, x296, x297, x298, x299, x300, x301, x302, x303, x304, x305, x306, x307, x308, x309, x310, x311, x312, x313, x314, x315, x316, x317, x318, x319, x320], []⟩ w := by
  have hok := insAt_ok h.ok (by have := h.at_lt; have := h.ncode; omega : at_ < m.code.length)
  rw [hi] at hok
  dsimp only at hok
  have hAct : C.act conB m at_ s = C.step n s (floorT s.tries) 1 0 ((s.of != -1) && s.tries.isEmpty) [] := by
    have hn := h.ncode
    unfold PC.act
    rw [hi, hn]
    rfl
  have i0 := h.ibB.cell 0
  have i1 := h.ibB.cell 1
  have i2 := h.ibB.cell 2
  have s0 := h.sbB.cell 0
  have s1 := h.sbB.cell 1
  have s2 := h.sbB.cell 2
  have c0 := h.cbB.cell 0
  have k0 := h.mem.ck.cell 0
  have k3 := h.mem.ck.cell 3
  rw [hi] at i0 i1 i2
  simp only [List.getElem?_toArray, List.getElem?_cons_zero, List.getElem?_cons_succ] at i0 i1 i2 s0 s1 s2 c0 k0 k3
  have hat := h.at_lt
  have hn_ := h.n_
  have hht := h.ht
  have hpn := h.pn
  have htrl := h.trl
  obtain ⟨tA, tcp, htv⟩ := h.tr.val
  rw [htv] at s2
  rw [hAct] at hexit
  have H := hide h
  have HX := hide hexit
  clear h hexit hAct htv
  have HS := hide ((unhide H).step 1 0 ((s.of != -1) && s.tries.isEmpty) [] none 0 w (Chg.refl _ w) (Rd.nil_ _ _ _) (by simp <;> omega) (by simp) (by omega))
  have hl0 : ((s.tries.length : Int) == 0) = s.tries.isEmpty := by
    cases s.tries with
    | nil => rfl
    | cons x l => exact beq_eq_false_iff_ne.2 (by rw [List.length_cons]; omega)
  generalize s.tries.isEmpty = em at *
  generalize (s.of != -1) = fn at *
  cases fn <;> cases em
  all_goals
    conv => arg 2; whnf
    go_wp2_with (go_at_call 45; refine (unhide HS).mono ?_; rintro e w2 ⟨rfl, hco⟩; have HCO := hide hco; clear hco)
    exact unhide HX _ _ (unhide HCO).more
theorem do_11 (x3 x9 x10 x11 x12 x13 x14 x15 x16 x17 x18 x19 x20 x21 x22 x23 x24 x25 x26 x27 x28 x29 x30 x31 x32 x33 x34 x35 x36 x37 x38 x39 x40 x42 x43 x44 x45 x46 x47 x48 x49 x50 x51 x52 x53 x54 x55 x56 x57 x58 x59 x60 x61 x62 x63 x64 x65 x66 x67 x68 x69 x70 x71 x72 x73 x74 x75 x76 x77 x78 x79 x80 x81 x82 x83 x84 x85 x86 x87 x88 x89 x90 x91 x92 x93 x94 x95 x96 x97 x98 x99 x100 x101 x102 x103 x104 x105 x106 x107 x108 x109 x110 x111 x112 x113 x114 x115 x116 x117 x118 x119 x120 x121 x122 x123 x124 x125 x126 x127 x128 x129 x130 x131 x132 x133 x134 x135 x136 x137 x138 x139 x140 x141 x142 x143 x144 x145 x146 x147 x148 x149 x150 x151 x152 x153 x154 x155 x156 x157 x158 x159 x160 x161 x162 x163 x164 x165 x166 x167 x168 x169 x170 x171 x172 x173 x174 x175 x176 x177 x178 x179 x180 x181 x182 x183 x184 x185 x186 x187 x188 x189 x190 x191 x192 x193 x194 x195 x196 x197 x198 x199 x200 x201 x202 x203 x204 x205 x206 x207 x208 x209 x210 x211 x212 x213 x214 x215 x216 x217 x218 x219 x220 x221 x222 x223 x224 x225 x226 x227 x228 x229 x230 x231 x232 x233 x234 x235 x236 x237 x238 x239 x240 x241 x242 x243 x244 x245 x246 x247 x248 x249 x250 x251 x252 x253 x254 x255 x256 x257 x258 x259 x260 x261 x262 x263 x264 x265 x266 x267 x268 x269 x270 x271 x272 x273 x274 x275 x276 x277 x278 x279 x280 x281 x282 x283 x284 x285 x286 x287 x288 x289 x290 x291 x292 x293 x294 x295 x296 x297 x298 x299 x300 x301 x302 x303 x304 x305 x306 x307 x308 x309 x310 x311 x312 x313 x314 x315 x316 x317 x318 x319 x320 : Value) (w : World) (base c b mp n L : Nat) (m : Im) (pA cA : Option Addr) (pc cc : Nat) (v5 : Value) (f : I64 → Option Int) (cs : Array Value) (C : PC) (at_ : Nat) (s : PSt) (tv : Value) (cb ib sb fb : Nat) (ia ibv : Int)
    (h : DoSt w base c b mp n L m pA cA pc cc v5 f cs C at_ s tv cb ib sb fb) (hi : insAt m at_ = ⟨11, ia, ibv⟩) 
    (Q : Exit → Act → World → Prop) (hexit : ∀ (tmps : Array Value) (w' : World), COut w w' base c b mp n (L + 1) (.slice pA m.pool.length pc) (.slice cA n cc) v5 (C.act conB m at_ s) → Q .normal ⟨tmps, []⟩ w') :
    Code.wp Tryd.prog doC Q ⟨#[.pointer (some ⟨c, 0, none⟩), .int .i64 (at_ : Int), .pointer (some ⟨cb, 0, none⟩), x3, .pointer (some ⟨ib, 0, none⟩), .pointer (some ⟨sb, 0, none⟩), .pointer (some ⟨fb, 0, none⟩), .bool (s.of != -1), .func (.func 45) #[] #[.pointer (some ⟨sb, 0, none⟩), .pointer (some ⟨fb, 0, none⟩), .pointer (some ⟨cb, 0, none⟩)], x9, x10, x11, x12, x13, x14, x15, x16, x17, x18, x19, x20, x21, x22, x23, x24, x25, x26, x27, x28, x29, x30, x31, x32, x33, x34, x35, x36, x37, x38, x39, x40, .int .i64 11, x42, x43, x44, x45, x46, x47, x48, x49, x50, x51, x52, x53, x54, x55, x56, x57, x58, x59, x60, x61, x62, x63, x64, x65, x66, x67, x68, x69, x70, x71, x72, x73, x74, x75, x76, x77, x78, x79, x80, x81, x82, x83, x84, x85, x86, x87, x88, x89, x90, x91, x92, x93, x94, x95, x96, x97, x98, x99, x100, x101, x102, x103, x104, x105, x106, x107, x108, x109, x110, x111, x112, x113, x114, x115, x116, x117, x118, x119, x120, x121, x122, x123, x124, x125, x126, x127, x128, x129, x130, x131, x132, x133, x134, x135, x136, x137, x138, x139, x140, x141, x142, x143, x144, x145, x146, x147, x148, x149, x150, x151, x152, x153, x154, x155, x156, x157, x158, x159, x160, x161, x162, x163, x164, x165, x166, x167, x168, x169, x170, x171, x172, x173, x174, x175, x176, x177, x178, x179, x180, x181, x182, x183, x184, x185, x186, x187, x188, x189, x190, x191, x192, x193, x194, x195, x196, x197, x198, x199, x200, x201, x202, x203, x204, x205, x206, x207, x208, x209, x210, x211, x212, x213, x214, x215, x216, x217, x218, x219, x220, x221, x222, x223, x224, x225, x226, x227, x228, x229, x230, x231, x232, x233, x234, x235, x236, x237, x238, x239, x240, x241, x242, x243, x244, x245, x246, x247, x248, x249, x250, x251, x252, x253, x254, x255, x256, x257, x258, x259, x260, x261, x262, x263, x264, x265, x266, x267, x268, x269, x270, x271, x272, x273, x274, x275, x276, x277, x278, x279, x280, x281, x282, x283, x284, x285, x286, x287, x288, x289, x290, x291, x292, x293, x294, x295, x296, x297, x298, x299, x300, x301, x302, x303, x304, x305, x306, x307, x308, x309, x310, x311, x312, x313, x314, x315, x316, x317, x318, x319, x320], []⟩ w := by
  have hok := insAt_ok h.ok (by have := h.at_lt; have := h.ncode; omega : at_ < m.code.length)
  rw [hi] at hok
  dsimp only at hok
  have hAct : C.act conB m at_ s = C.step n s (floorT s.tries) 1 1 (decide (ia < 8)) [at_ + 1] := by
    have hn := h.ncode
    unfold PC.act
    rw [hi, hn]
    rfl
  have i0 := h.ibB.cell 0
  have i1 := h.ibB.cell 1
  have i2 := h.ibB.cell 2
  have s0 := h.sbB.cell 0
  have s1 := h.sbB.cell 1
  have s2 := h.sbB.cell 2
  have c0 := h.cbB.cell 0
  have k0 := h.mem.ck.cell 0
  have k3 := h.mem.ck.cell 3
  rw [hi] at i0 i1 i2
  simp only [List.getElem?_toArray, List.getElem?_cons_zero, List.getElem?_cons_succ] at i0 i1 i2 s0 s1 s2 c0 k0 k3
  have hat := h.at_lt
  have hn_ := h.n_
  have hht := h.ht
  have hpn := h.pn
  have htrl := h.trl
  obtain ⟨tA, tcp, htv⟩ := h.tr.val
  rw [htv] at s2
  rw [hAct] at hexit
  have H := hide h
  have HX := hide hexit
  clear h hexit hAct htv
  have HS := hide ((unhide H).step 1 1 (decide (ia < 8)) [at_ + 1] (some ⟨w.heap.size, 0, none⟩) 1 (w.alloc (.cells ([at_ + 1].map (fun t : Nat => intl (t : Int))).toArray 3)) ((Chg.refl _ w).alloc _) (tos_new (unhide H).mem [at_ + 1] (by simp) w (Chg.refl _ w)) (by simp <;> omega) (by simp) (by omega))
  conv => arg 2; whnf
  go_wp2_with (go_at_call 45; refine (unhide HS).mono ?_; rintro e w2 ⟨rfl, hco⟩; have HCO := hide hco; clear hco)
  exact unhide HX _ _ (unhide HCO).more
theorem do_13 (x3 x9 x10 x11 x12 x13 x14 x15 x16 x17 x18 x19 x20 x21 x22 x23 x24 x25 x26 x27 x28 x29 x30 x31 x32 x33 x34 x35 x36 x37 x38 x39 x40 x42 x43 x44 x45 x46 x47 x48 x49 x50 x51 x52 x53 x54 x55 x56 x57 x58 x59 x60 x61 x62 x63 x64 x65 x66 x67 x68 x69 x70 x71 x72 x73 x74 x75 x76 x77 x78 x79 x80 x81 x82 x83 x84 x85 x86 x87 x88 x89 x90 x91 x92 x93 x94 x95 x96 x97 x98 x99 x100 x101 x102 x103 x104 x105 x106 x107 x108 x109 x110 x111 x112 x113 x114 x115 x116 x117 x118 x119 x120 x121 x122 x123 x124 x125 x126 x127 x128 x129 x130 x131 x132 x133 x134 x135 x136 x137 x138 x139 x140 x141 x142 x143 x144 x145 x146 x147 x148 x149 x150 x151 x152 x153 x154 x155 x156 x157 x158 x159 x160 x161 x162 x163 x164 x165 x166 x167 x168 x169 x170 x171 x172 x173 x174 x175 x176 x177 x178 x179 x180 x181 x182 x183 x184 x185 x186 x187 x188 x189 x190 x191 x192 x193 x194 x195 x196 x197 x198 x199 x200 x201 x202 x203 x204 x205 x206 x207 x208 x209 x210 x211 x212 x213 x214 x215 x216 x217 x218 x219 x220 x221 x222 x223 x224 x225 x226 x227 x228 x229 x230 x231 x232 x233 x234 x235 x236 x237 x238 x239 x240 x241 x242 x243 x244 x245 x246 x247 x248 x249 x250 x251 x252 x253 x254 x255 x256 x257 x258 x259 x260 x261 x262 x263 x264 x265 x266 x267 x268 x269 x270 x271 x272 x273 x274 x275 x276 x277 x278 x279 x280 x281 x282 x283 x284 x285 x286 x287 x288 x289 x290 x291 x292 x293 x294 x295 x296 x297 x298 x299 x300 x301 x302 x303 x304 x305 x306 x307 x308 x309 x310 x311 x312 x313 x314 x315 x316 x317 x318 x319 x320 : Value) (w : World) (base c b mp n L : Nat) (m : Im) (pA cA : Option Addr) (pc cc : Nat) (v5 : Value) (f : I64 → Option Int) (cs : Array Value) (C : PC) (at_ : Nat) (s : PSt) (tv : Value) (cb ib sb fb : Nat) (ia ibv : Int)
    (h : DoSt w base c b mp n L m pA cA pc cc v5 f cs C at_ s tv cb ib sb fb) (hi : insAt m at_ = ⟨13, ia, ibv⟩) 
    (Q : Exit → Act → World → Prop) (hexit : ∀ (tmps : Array Value) (w' : World), COut w w' base c b mp n (L + 1) (.slice pA m.pool.length pc) (.slice cA n cc) v5 (C.act conB m at_ s) → Q .normal ⟨tmps, []⟩ w') :
    Code.wp Tryd.prog doC Q ⟨#[.pointer (some ⟨c, 0, none⟩), .int .i64 (at_ : Int), .pointer (some ⟨cb, 0, none⟩), x3, .pointer (some ⟨ib, 0, none⟩), .pointer (some ⟨sb, 0, none⟩), .pointer (some ⟨fb, 0, none⟩), .bool (s.of != -1), .func (.func 45) #[] #[.pointer (some ⟨sb, 0, none⟩), .pointer (some ⟨fb, 0, none⟩), .pointer (some ⟨cb, 0, none⟩)], x9, x10, x11, x12, x13, x14, x15, x16, x17, x18, x19, x20, x21, x22, x23, x24, x25, x26, x27, x28, x29, x30, x31, x32, x33, x34, x35, x36, x37, x38, x39, x40, .int .i64 13, x42, x43, x44, x45, x46, x47, x48, x49, x50, x51, x52, x53, x54, x55, x56, x57, x58, x59, x60, x61, x62, x63, x64, x65, x66, x67, x68, x69, x70, x71, x72, x73, x74, x75, x76, x77, x78, x79, x80, x81, x82, x83, x84, x85, x86, x87, x88, x89, x90, x91, x92, x93, x94, x95, x96, x97, x98, x99, x100, x101, x102, x103, x104, x105, x106, x107, x108, x109, x110, x111, x112, x113, x114, x115, x116, x117, x118, x119, x120, x121, x122, x123, x124, x125, x126, x127, x128, x129, x130, x131, x132, x133, x134, x135, x136, x137, x138, x139, x140, x141, x142, x143, x144, x145, x146, x147, x148, x149, x150, x151, x152, x153, x154, x155, x156, x157, x158, x159, x160, x161, x162, x163, x164, x165, x166, x167, x168, x169, x170, x171, x172, x173, x174, x175, x176, x177, x178, x179, x180, x181, x182, x183, x184, x185, x186, x187, x188, x189, x190, x191, x192, x193, x194, x195, x196, x197, x198, x199, x200, x201, x202, x203, x204, x205, x206, x207, x208, x209, x210, x211, x212, x213, x214, x215, x216, x217, x218, x219, x220, x221, x222, x223, x224, x225, x226, x227, x228, x229, x230, x231, x232, x233, x234, x235, x236, x237, x238, x239, x240, x241, x242, x243, x244, x245, x246, x247, x248, x249, x250, x251, x252, x253, x254, x255, x256, x257, x258, x259, x260, x261, x262, x263, x264, x265, x266, x267, x268, x269, x270, x271, x272, x273, x274, x275, x276, x277, x278, x279, x280, x281, x282, x283, x284, x285, x286, x287, x288, x289, x290, x291, x292, x293, x294, x295, x296, x297, x298, x299, x300, x301, x302, x303, x304, x305, x306, x307, x308, x309, x310, x311, x312, x313, x314, x315, x316, x317, x318, x319, x320], []⟩ w := by
  have hok := insAt_ok h.ok (by have := h.at_lt; have := h.ncode; omega : at_ < m.code.length)
  rw [hi] at hok
  dsimp only at hok
  have hAct : C.act conB m at_ s = C.step n s (floorT s.tries) 1 0 true [] := by
    have hn := h.ncode
    unfold PC.act
    rw [hi, hn]
    rfl
  have i0 := h.ibB.cell 0
  have i1 := h.ibB.cell 1
  have i2 := h.ibB.cell 2
  have s0 := h.sbB.cell 0
  have s1 := h.sbB.cell 1
  have s2 := h.sbB.cell 2
  have c0 := h.cbB.cell 0
  have k0 := h.mem.ck.cell 0
  have k3 := h.mem.ck.cell 3
  rw [hi] at i0 i1 i2
  simp only [List.getElem?_toArray, List.getElem?_cons_zero, List.getElem?_cons_succ] at i0 i1 i2 s0 s1 s2 c0 k0 k3
  have hat := h.at_lt
  have hn_ := h.n_
  have hht := h.ht
  have hpn := h.pn
  have htrl := h.trl
  obtain ⟨tA, tcp, htv⟩ := h.tr.val
  rw [htv] at s2
  rw [hAct] at hexit
  have H := hide h
  have HX := hide hexit
  clear h hexit hAct htv
  have HS := hide ((unhide H).step 1 0 true [] none 0 w (Chg.refl _ w) (Rd.nil_ _ _ _) (by simp <;> omega) (by simp) (by omega))
  conv => arg 2; whnf
  go_wp2_with (go_at_call 45; refine (unhide HS).mono ?_; rintro e w2 ⟨rfl, hco⟩; have HCO := hide hco; clear hco)
  exact unhide HX _ _ (unhide HCO).more
theorem do_15 (x3 x9 x10 x11 x12 x13 x14 x15 x16 x17 x18 x19 x20 x21 x22 x23 x24 x25 x26 x27 x28 x29 x30 x31 x32 x33 x34 x35 x36 x37 x38 x39 x40 x42 x43 x44 x45 x46 x47 x48 x49 x50 x51 x52 x53 x54 x55 x56 x57 x58 x59 x60 x61 x62 x63 x64 x65 x66 x67 x68 x69 x70 x71 x72 x73 x74 x75 x76 x77 x78 x79 x80 x81 x82 x83 x84 x85 x86 x87 x88 x89 x90 x91 x92 x93 x94 x95 x96 x97 x98 x99 x100 x101 x102 x103 x104 x105 x106 x107 x108 x109 x110 x111 x112 x113 x114 x115 x116 x117 x118 x119 x120 x121 x122 x123 x124 x125 x126 x127 x128 x129 x130 x131 x132 x133 x134 x135 x136 x137 x138 x139 x140 x141 x142 x143 x144 x145 x146 x147 x148 x149 x150 x151 x152 x153 x154 x155 x156 x157 x158 x159 x160 x161 x162 x163 x164 x165 x166 x167 x168 x169 x170 x171 x172 x173 x174 x175 x176 x177 x178 x179 x180 x181 x182 x183 x184 x185 x186 x187 x188 x189 x190 x191 x192 x193 x194 x195 x196 x197 x198 x199 x200 x201 x202 x203 x204 x205 x206 x207 x208 x209 x210 x211 x212 x213 x214 x215 x216 x217 x218 x219 x220 x221 x222 x223 x224 x225 x226 x227 x228 x229 x230 x231 x232 x233 x234 x235 x236 x237 x238 x239 x240 x241 x242 x243 x244 x245 x246 x247 x248 x249 x250 x251 x252 x253 x254 x255 x256 x257 x258 x259 x260 x261 x262 x263 x264 x265 x266 x267 x268 x269 x270 x271 x272 x273 x274 x275 x276 x277 x278 x279 x280 x281 x282 x283 x284 x285 x286 x287 x288 x289 x290 x291 x292 x293 x294 x295 x296 x297 x298 x299 x300 x301 x302 x303 x304 x305 x306 x307 x308 x309 x310 x311 x312 x313 x314 x315 x316 x317 x318 x319 x320 : Value) (w : World) (base c b mp n L : Nat) (m : Im) (pA cA : Option Addr) (pc cc : Nat) (v5 : Value) (f : I64 → Option Int) (cs : Array Value) (C : PC) (at_ : Nat) (s : PSt) (tv : Value) (cb ib sb fb : Nat) (ia ibv : Int)
    (h : DoSt w base c b mp n L m pA cA pc cc v5 f cs C at_ s tv cb ib sb fb) (hi : insAt m at_ = ⟨15, ia, ibv⟩) 
    (Q : Exit → Act → World → Prop) (hexit : ∀ (tmps : Array Value) (w' : World), COut w w' base c b mp n (L + 1) (.slice pA m.pool.length pc) (.slice cA n cc) v5 (C.act conB m at_ s) → Q .normal ⟨tmps, []⟩ w') :
    Code.wp Tryd.prog doC Q ⟨#[.pointer (some ⟨c, 0, none⟩), .int .i64 (at_ : Int), .pointer (some ⟨cb, 0, none⟩), x3, .pointer (some ⟨ib, 0, none⟩), .pointer (some ⟨sb, 0, none⟩), .pointer (some ⟨fb, 0, none⟩), .bool (s.of != -1), .func (.func 45) #[] #[.pointer (some ⟨sb, 0, none⟩), .pointer (some ⟨fb, 0, none⟩), .pointer (some ⟨cb, 0, none⟩)], x9, x10, x11, x12, x13, x14, x15, x16, x17, x18, x19, x20, x21, x22, x23, x24, x25, x26, x27, x28, x29, x30, x31, x32, x33, x34, x35, x36, x37, x38, x39, x40, .int .i64 15, x42, x43, x44, x45, x46, x47, x48, x49, x50, x51, x52, x53, x54, x55, x56, x57, x58, x59, x60, x61, x62, x63, x64, x65, x66, x67, x68, x69, x70, x71, x72, x73, x74, x75, x76, x77, x78, x79, x80, x81, x82, x83, x84, x85, x86, x87, x88, x89, x90, x91, x92, x93, x94, x95, x96, x97, x98, x99, x100, x101, x102, x103, x104, x105, x106, x107, x108, x109, x110, x111, x112, x113, x114, x115, x116, x117, x118, x119, x120, x121, x122, x123, x124, x125, x126, x127, x128, x129, x130, x131, x132, x133, x134, x135, x136, x137, x138, x139, x140, x141, x142, x143, x144, x145, x146, x147, x148, x149, x150, x151, x152, x153, x154, x155, x156, x157, x158, x159, x160, x161, x162, x163, x164, x165, x166, x167, x168, x169, x170, x171, x172, x173, x174, x175, x176, x177, x178, x179, x180, x181, x182, x183, x184, x185, x186, x187, x188, x189, x190, x191, x192, x193, x194, x195, x196, x197, x198, x199, x200, x201, x202, x203, x204, x205, x206, x207, x208, x209, x210, x211, x212, x213, x214, x215, x216, x217, x218, x219, x220, x221, x222, x223, x224, x225, x226, x227, x228, x229, x230, x231, x232, x233, x234, x235, x236, x237, x238, x239, x240, x241, x242, x243, x244, x245, x246, x247, x248, x249, x250, x251, x252, x253, x254, x255, x256, x257, x258, x259, x260, x261, x262, x263, x264, x265, x266, x267, x268, x269, x270, x271, x272, x273, x274, x275, x276, x277, x278, x279, x280, x281, x282, x283, x284, x285, x286, x287, x288, x289, x290, x291, x292, x293, x294, x295, x296, x297, x298, x299, x300, x301, x302, x303, x304, x305, x306, x307, x308, x309, x310, x311, x312, x313, x314, x315, x316, x317, x318, x319, x320], []⟩ w := by
  obtain ⟨ia, rfl⟩ := Int.eq_ofNat_of_zero_le (insAt_a h hi)
  have hok := insAt_ok h.ok (by have := h.at_lt; have := h.ncode; omega : at_ < m.code.length)
  rw [hi] at hok
  dsimp only at hok
  have hAct : C.act conB m at_ s = C.step n s (floorT s.tries) 0 0 true [ia] := by
    have hn := h.ncode
    unfold PC.act
    rw [hi, hn]
    rfl
  have i0 := h.ibB.cell 0
  have i1 := h.ibB.cell 1
  have i2 := h.ibB.cell 2
  have s0 := h.sbB.cell 0
  have s1 := h.sbB.cell 1
  have s2 := h.sbB.cell 2
  have c0 := h.cbB.cell 0
  have k0 := h.mem.ck.cell 0
  have k3 := h.mem.ck.cell 3
  rw [hi] at i0 i1 i2
  simp only [List.getElem?_toArray, List.getElem?_cons_zero, List.getElem?_cons_succ] at i0 i1 i2 s0 s1 s2 c0 k0 k3
  have hat := h.at_lt
  have hn_ := h.n_
  have hht := h.ht
  have hpn := h.pn
  have htrl := h.trl
  obtain ⟨tA, tcp, htv⟩ := h.tr.val
  rw [htv] at s2
  rw [hAct] at hexit
  have H := hide h
  have HX := hide hexit
  clear h hexit hAct htv
  have HS := hide ((unhide H).step 0 0 true [ia] (some ⟨w.heap.size, 0, none⟩) 1 (w.alloc (.cells ([ia].map (fun t : Nat => intl (t : Int))).toArray 3)) ((Chg.refl _ w).alloc _) (tos_new (unhide H).mem [ia] (by simp) w (Chg.refl _ w)) (by simp <;> omega) (by simp) (by omega))
  conv => arg 2; whnf
  go_wp2_with (go_at_call 45; refine (unhide HS).mono ?_; rintro e w2 ⟨rfl, hco⟩; have HCO := hide hco; clear hco)
  exact unhide HX _ _ (unhide HCO).more
theorem do_16 (x3 x9 x10 x11 x12 x13 x14 x15 x16 x17 x18 x19 x20 x21 x22 x23 x24 x25 x26 x27 x28 x29 x30 x31 x32 x33 x34 x35 x36 x37 x38 x39 x40 x42 x43 x44 x45 x46 x47 x48 x49 x50 x51 x52 x53 x54 x55 x56 x57 x58 x59 x60 x61 x62 x63 x64 x65 x66 x67 x68 x69 x70 x71 x72 x73 x74 x75 x76 x77 x78 x79 x80 x81 x82 x83 x84 x85 x86 x87 x88 x89 x90 x91 x92 x93 x94 x95 x96 x97 x98 x99 x100 x101 x102 x103 x104 x105 x106 x107 x108 x109 x110 x111 x112 x113 x114 x115 x116 x117 x118 x119 x120 x121 x122 x123 x124 x125 x126 x127 x128 x129 x130 x131 x132 x133 x134 x135 x136 x137 x138 x139 x140 x141 x142 x143 x144 x145 x146 x147 x148 x149 x150 x151 x152 x153 x154 x155 x156 x157 x158 x159 x160 x161 x162 x163 x164 x165 x166 x167 x168 x169 x170 x171 x172 x173 x174 x175 x176 x177 x178 x179 x180 x181 x182 x183 x184 x185 x186 x187 x188 x189 x190 x191 x192 x193 x194 x195 x196 x197 x198 x199 x200 x201 x202 x203 x204 x205 x206 x207 x208 x209 x210 x211 x212 x213 x214 x215 x216 x217 x218 x219 x220 x221 x222 x223 x224 x225 x226 x227 x228 x229 x230 x231 x232 x233 x234 x235 x236 x237 x238 x239 x240 x241 x242 x243 x244 x245 x246 x247 x248 x249 x250 x251 x252 x253 x254 x255 x256 x257 x258 x259 x260 x261 x262 x263 x264 x265 x266 x267 x268 x269 x270 x271 x272 x273 x274 x275 x276 x277 x278 x279 x280 x281 x282 x283 x284 x285 x286 x287 x288 x289 x290 x291 x292 x293 x294 x295 x296 x297 x298 x299 x300 x301 x302 x303 x304 x305 x306 x307 x308 x309 x310 x311 x312 x313 x314 x315 x316 x317 x318 x319 x320 : Value) (w : World) (base c b mp n L : Nat) (m : Im) (pA cA : Option Addr) (pc cc : Nat) (v5 : Value) (f : I64 → Option Int) (cs : Array Value) (C : PC) (at_ : Nat) (s : PSt) (tv : Value) (cb ib sb fb : Nat) (ia ibv : Int)
    (h : DoSt w base c b mp n L m pA cA pc cc v5 f cs C at_ s tv cb ib sb fb) (hi : insAt m at_ = ⟨16, ia, ibv⟩) 
    (Q : Exit → Act → World → Prop) (hexit : ∀ (tmps : Array Value) (w' : World), COut w w' base c b mp n (L + 1) (.slice pA m.pool.length pc) (.slice cA n cc) v5 (C.act conB m at_ s) → Q .normal ⟨tmps, []⟩ w') :
    Code.wp Tryd.prog doC Q ⟨#[.pointer (some ⟨c, 0, none⟩), .int .i64 (at_ : Int), .pointer (some ⟨cb, 0, none⟩), x3, .pointer (some ⟨ib, 0, none⟩), .pointer (some ⟨sb, 0, none⟩), .pointer (some ⟨fb, 0, none⟩), .bool (s.of != -1), .func (.func 45) #[] #[.pointer (some ⟨sb, 0, none⟩), .pointer (some ⟨fb, 0, none⟩), .pointer (some ⟨cb, 0, none⟩)], x9, x10, x11, x12, x13, x14, x15, x16, x17, x18, x19, x20, x21, x22, x23, x24, x25, x26, x27, x28, x29, x30, x31, x32, x33, x34, x35, x36, x37, x38, x39, x40, .int .i64 16, x42, x43, x44, x45, x46, x47, x48, x49, x50, x51, x52, x53, x54, x55, x56, x57, x58, x59, x60, x61, x62, x63, x64, x65, x66, x67, x68, x69, x70, x71, x72, x73, x74, x75, x76, x77, x78, x79, x80, x81, x82, x83, x84, x85, x86, x87, x88, x89, x90, x91, x92, x93, x94, x95, x96, x97, x98, x99, x100, x101, x102, x103, x104, x105, x106, x107, x108, x109, x110, x111, x112, x113, x114, x115, x116, x117, x118, x119, x120, x121, x122, x123, x124, x125, x126, x127, x128, x129, x130, x131, x132, x133, x134, x135, x136, x137, x138, x139, x140, x141, x142, x143, x144, x145, x146, x147, x148, x149, x150, x151, x152, x153, x154, x155, x156, x157, x158, x159, x160, x161, x162, x163, x164, x165, x166, x167, x168, x169, x170, x171, x172, x173, x174, x175, x176, x177, x178, x179, x180, x181, x182, x183, x184, x185, x186, x187, x188, x189, x190, x191, x192, x193, x194, x195, x196, x197, x198, x199, x200, x201, x202, x203, x204, x205, x206, x207, x208, x209, x210, x211, x212, x213, x214, x215, x216, x217, x218, x219, x220, x221, x222, x223, x224, x225, x226, x227, x228, x229, x230, x231, x232, x233, x234, x235, x236, x237, x238, x239, x240, x241, x242, x243, x244, x245, x246, x247, x248, x249, x250, x251, x252, x253, x254, x255, x256, x257, x258, x259, x260, x261, x262, x263, x264, x265, x266, x267, x268, x269, x270, x271, x272, x273, x274, x275, x276, x277, x278, x279, x280, x281, x282, x283, x284, x285, x286, x287, x288, x289, x290, x291, x292, x293, x294, x295, x296, x297, x298, x299, x300, x301, x302, x303, x304, x305, x306, x307, x308, x309, x310, x311, x312, x313, x314, x315, x316, x317, x318, x319, x320], []⟩ w := by
  obtain ⟨ia, rfl⟩ := Int.eq_ofNat_of_zero_le (insAt_a h hi)
  have hok := insAt_ok h.ok (by have := h.at_lt; have := h.ncode; omega : at_ < m.code.length)
  rw [hi] at hok
  dsimp only at hok
  have hAct : C.act conB m at_ s = C.step n s (floorT s.tries) 1 0 true [ia, at_ + 1] := by
    have hn := h.ncode
    unfold PC.act
    rw [hi, hn]
    rfl
  have i0 := h.ibB.cell 0
  have i1 := h.ibB.cell 1
  have i2 := h.ibB.cell 2
  have s0 := h.sbB.cell 0
  have s1 := h.sbB.cell 1
  have s2 := h.sbB.cell 2
  have c0 := h.cbB.cell 0
  have k0 := h.mem.ck.cell 0
  have k3 := h.mem.ck.cell 3
  rw [hi] at i0 i1 i2
  simp only [List.getElem?_toArray, List.getElem?_cons_zero, List.getElem?_cons_succ] at i0 i1 i2 s0 s1 s2 c0 k0 k3
  have hat := h.at_lt
  have hn_ := h.n_
  have hht := h.ht
  have hpn := h.pn
  have htrl := h.trl
  obtain ⟨tA, tcp, htv⟩ := h.tr.val
  rw [htv] at s2
  rw [hAct] at hexit
  have H := hide h
  have HX := hide hexit
  clear h hexit hAct htv
  have HS := hide ((unhide H).step 1 0 true [ia, at_ + 1] (some ⟨w.heap.size, 0, none⟩) 2 (w.alloc (.cells ([ia, at_ + 1].map (fun t : Nat => intl (t : Int))).toArray 3)) ((Chg.refl _ w).alloc _) (tos_new (unhide H).mem [ia, at_ + 1] (by simp) w (Chg.refl _ w)) (by simp <;> omega) (by simp) (by omega))
  conv => arg 2; whnf
  go_wp2_with (go_at_call 45; refine (unhide HS).mono ?_; rintro e w2 ⟨rfl, hco⟩; have HCO := hide hco; clear hco)
  exact unhide HX _ _ (unhide HCO).more
end Go.Proofs.YtejkaalhjocmgaaDoor
