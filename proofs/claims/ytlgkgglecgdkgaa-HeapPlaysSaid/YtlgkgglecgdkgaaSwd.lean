/-
  The switch of HeapPlays where a text is put.
-/
import Derived.Deep.RegionHeld3
import Derived.Test.YtlgkgglecgdkgaaSwa
namespace Go.Proofs.Ytlgkgglecgdkgaa
open Go.RowKit
set_option maxHeartbeats 2000000
set_option maxRecDepth 1000000
theorem PSt.fin {w0 wr : World} {B n g bn bo bb hm j : Nat} {M : HM} {all : List ObjM} {L : List Int} {wd : Int → Nat} {rs : List Rf} {v8 v9 : Value} {A7 : Option Addr} {c7 : Nat} (h : PSt w0 wr B n g bn bo bb hm M all L wd rs v8 v9 A7 c7)
    {w2 W w6 : World} {o : ObjM} (ho : OkO o) (hoc : ∀ r ∈ o.parts, ClR L r) {N X0 : Nat} (hN : needO o = N) (hX : 2 * M.now.length = X0) (hroom : M.now.length + needO o ≤ M.size) {A' : Option Addr} {c' : Nat} {v8' v9' : Value} {S : Nat → Prop}
    (hrep2 : HRep w2 g bn bo bb (M.put (o.tag.toNat * 65536 + (payW wd o).length * 8 + o.kind.toNat) (payW wd o))) (hc2 : Chg (fun k => k = g ∨ k = bn ∨ k = bb) wr w2) (hcW : Chg (fun k => k = hm) w2 W) (hfc : Chg S W w6)
    (hS : S = fun k => v8.ownBlock = some k ∨ v9.ownBlock = some k) (hmW : Blk W hm 45 #[.int .i64 (n : Int), .int .i64 ((M.now.length : Int) + (N : Int)), .slice A' (all.length + 1) c'])
    (hobW : RdObjs (fun b => PT B bb hm v8 v9 wr.heap.size b ∨ w2.heap.size ≤ b) W A' (all ++ [o]))
    (hf8 : w6.ownsRow B 26 1 v8' (rs.length + 1) ((rs.map (encR wd)).map wv ++ [wv X0])) (hf9 : w6.ownsRow B 51 2 v9' (rs.length + 1) (rs.flatMap rfv ++ rfv (false, (all.length : Int))))
    (ha8 : v8'.ownBlock = v8.ownBlock ∨ ∃ b, v8'.ownBlock = some b ∧ W.heap.size ≤ b) (ha9 : v9'.ownBlock = v9.ownBlock ∨ ∃ b, v9'.ownBlock = some b ∧ W.heap.size ≤ b) (hal : all.length ≤ j) (hrl : rs.length ≤ j) : SwR w0 B n g hm j v8' v9' w6 := by
  subst hN hX
  have s2 := hc2.size
  have sW := hcW.size
  have s6 := hfc.size
  have l8 : ∀ b, v8.ownBlock = some b → b < wr.heap.size := fun b hb => (h.ws.lt b hb).2
  have l9 : ∀ b, v9.ownBlock = some b → b < wr.heap.size := fun b hb => (h.rf.lt b hb).2
  have h29 : Chg (fun k => k = hm ∨ v8.ownBlock = some k ∨ v9.ownBlock = some k) w2 w6 := (hcW.mono (fun _ _ e => .inl e)).trans hfc (fun k _ hs => by rw [hS] at hs; exact .inr hs)
  refine ⟨bn, bo, bb, _, all ++ [o], _, _, rs ++ [(false, (all.length : Int))], A', c', by simp; omega, by simp; omega, h.put ho hoc hroom hrep2 hc2 h29 (fun b hb _ => hb) ?_ ?_ hf8 hf9 ?_ ?_⟩
  · have hb := hmW.chg hfc (by rw [hS]; rintro (e | e); exact h.ne8hm e; exact h.ne9hm e)
    rw [Int.natCast_add, List.length_append]
    exact hb
  · refine ((hobW.bound).chg hfc (fun b hb hl hs => ?_)).mono (fun b hb => ?_)
    · rw [hS] at hs
      rcases hb.1 with h1 | h1
      · rcases hs with e | e
        · exact h1.2.2.2.2.1 e
        · exact h1.2.2.2.2.2 e
      · rcases hs with e | e
        · have := l8 b e; omega
        · have := l9 b e; omega
    · rcases hb.1 with h1 | h1
      · exact .inl h1
      · have hbl := hb.2
        refine .inr ⟨by omega, by omega, fun e => ?_, fun e => ?_⟩
        · rcases ha8 with e2 | ⟨k, e2, hk⟩
          · rw [e2] at e; have := l8 b e; omega
          · rw [e2] at e; injection e with e; omega
        · rcases ha9 with e2 | ⟨k, e2, hk⟩
          · rw [e2] at e; have := l9 b e; omega
          · rw [e2] at e; injection e with e; omega
  · exact ha8.imp id (fun ⟨k, e, hk⟩ => ⟨k, e, by omega⟩)
  · exact ha9.imp id (fun ⟨k, e, hk⟩ => ⟨k, e, by omega⟩)

theorem sw_one_yes (x0 x1 x2 x3 x4 x6 x10 x12 x13 x14 x15 x16 x17 x18 x19 x20 x21 x22 x23 x24 x25 x26 x27 x28 x29 x30 x31 x32 x33 x34 x35 x36 x37 x38 x39 x40 x41 x42 x43 x44 x45 x46 x47 x48 x49 x50 x51 x52 x53 x54 x55 x56 x57 x58 x59 x60 x61 x62 x63 x64 x65 x66 x67 x68 x69 x70 x71 x72 x73 x74 x75 x76 x77 x78 x79 x80 x81 x82 x83 x85 x86 x87 x88 x89 x90 x91 x92 x93 x94 x95 x96 x97 x98 x99 x100 x101 x102 x103 x104 x105 x106 x107 x108 x109 x110 x111 x112 x113 x114 x115 x116 x117 x118 x119 x120 x121 x122 x123 x124 x125 x126 x127 x128 x129 x130 x131 x132 x133 x134 x135 x136 x137 x138 x139 x140 x141 x142 x143 x144 x145 x146 x147 x148 x149 x150 x151 x152 x153 x154 x155 x156 x157 x158 x159 x160 x161 x162 x163 x164 x165 x166 x167 x168 x169 x170 x171 x172 x173 x174 x175 x176 x177 x178 x179 x180 x181 x182 x183 x184 x185 x186 x187 x188 x189 x190 x191 x192 x193 x194 x195 x196 x197 x198 x199 x200 x201 x202 x203 x204 x205 x206 x207 x208 x209 x210 x211 x212 x213 x214 x215 x216 x217 x218 x219 x220 x221 x222 x223 x224 x225 x226 x227 x228 x229 x230 x231 x232 x233 x234 x235 x236 x237 x238 x239 x240 x241 x242 x243 x244 x245 x246 x247 x248 x249 x250 x251 x252 x253 x254 x255 x256 x257 x258 x259 x260 x261 x262 x263 x264 x265 x266 x267 x268 x269 x270 x271 x272 x273 x274 x275 x276 x277 x278 x279 x280 x281 x282 x283 x284 x285 x286 x287 x288 x289 x290 x291 x292 x293 x294 x295 x296 x297 x298 x299 x300 x301 x302 x303 x304 x305 x306 x307 x308 x309 x310 x311 x312 x313 x314 x315 x316 x317 x318 x319 x320 x321 x322 x323 x324 x325 x326 x327 x328 x329 x330 v8 v9 : Value) (w0 w : World) (B n g bn bo bb hm ab j pc : Nat) (pA : Option Addr) (M : HM) (all : List ObjM) (L : List Int) (wd : Int → Nat) (rs : List Rf) (A7 : Option Addr) (c7 : Nat) (a : ActM)
    (hst : PSt w0 w B n g bn bo bb hm M all L wd rs v8 v9 A7 c7) (hal : all.length ≤ j) (hrl : rs.length ≤ j) (hj : j ≤ 60) (hab : Blk w ab 49 #[.int .i64 a.k, .int .i64 a.kind, .int .i64 a.tag, .slice pA a.parts.length pc, .string a.text, .int .i64 a.at_, .int .i64 a.by_, .int .i64 a.keep])
    (hpl : a.parts.length ≤ 20) (htl : a.text.size ≤ 300) (hk : a.k = 1) (hx : a.text.size ≤ 200) (hroom : M.now.length + (a.text.size + 7) / 8 + 1 ≤ M.size)
    (Q : Exit → Act → World → Prop) (hexit : ∀ (v8' v9' y12 y13 y14 y15 y16 y17 y18 y19 y20 y21 y22 y23 y24 y25 y26 y27 y28 y29 y30 y31 y32 y33 y85 y86 y87 y88 y89 y90 y91 y92 y93 y94 y95 y96 y97 y98 y99 y100 y101 y102 y103 y104 y105 y106 y107 y108 y109 y110 y111 y112 y113 y114 y115 y116 y117 y118 y119 y120 y121 y122 y123 y124 y125 y126 y127 y128 y129 y130 y131 y132 y133 y134 y135 y136 y137 y138 y139 y140 y141 y142 y143 y144 y145 y146 y147 y148 y149 y150 y151 y152 y153 y154 y155 y156 y157 y158 y159 y160 y161 y162 y163 y164 y165 y166 y167 y168 y169 y170 y171 y172 y173 y174 y175 y176 y177 y178 y179 y180 y181 y182 y183 y184 y185 y186 y187 y188 y189 y190 y191 y192 y193 y194 y195 y196 y197 y198 y199 y200 y201 y202 y203 y204 y205 y206 y207 y208 y209 y210 y211 y212 y213 y214 y215 y216 y217 y218 y219 y220 y221 y222 y223 y224 y225 y226 y227 y228 y229 y230 y231 y232 y233 y234 y235 y236 y237 y238 y239 y240 y241 y242 y243 y244 y245 y246 y247 y248 y249 y250 y251 y252 y253 y254 y255 y256 y257 y258 y259 y260 y261 y262 y263 y264 y265 y266 y267 y268 y269 y270 y271 y272 y273 y274 y275 y276 y277 y278 y279 y280 y281 y282 y283 y284 y285 y286 y287 y288 y289 y290 y291 y292 y293 y294 y295 y296 y297 : Value) (wx : World), SwR w0 B n g hm j v8' v9' wx → Q .normal ⟨#[x0, x1, x2, x3, x4, .pointer (some ⟨g, 0, none⟩), x6, .pointer (some ⟨hm, 0, none⟩), v8', v9', x10, .pointer (some ⟨ab, 0, none⟩), y12, y13, y14, y15, y16, y17, y18, y19, y20, y21, y22, y23, y24, y25, y26, y27, y28, y29, y30, y31, y32, y33, x34, x35, x36, x37, x38, x39, x40, x41, x42, x43, x44, x45, x46, x47, x48, x49, x50, x51, x52, x53, x54, x55, x56, x57, x58, x59, x60, x61, x62, x63, x64, x65, x66, x67, x68, x69, x70, x71, x72, x73, x74, x75, x76, x77, x78, x79, x80, x81, x82, x83, .int .i64 a.k, y85, y86, y87, y88, y89, y90, y91, y92, y93, y94, y95, y96, y97, y98, y99, y100, y101, y102, y103, y104, y105, y106, y107, y108, y109, y110, y111, y112, y113, y114, y115, y116, y117, y118, y119, y120, y121, y122, y123, y124, y125, y126, y127, y128, y129, y130, y131, y132, y133, y134, y135, y136, y137, y138, y139, y140, y141, y142, y143, y144, y145, y146, y147, y148, y149, y150, y151, y152, y153, y154, y155, y156, y157, y158, y159, y160, y161, y162, y163, y164, y165, y166, y167, y168, y169, y170, y171, y172, y173, y174, y175, y176, y177, y178, y179, y180, y181, y182, y183, y184, y185, y186, y187, y188, y189, y190, y191, y192, y193, y194, y195, y196, y197, y198, y199, y200, y201, y202, y203, y204, y205, y206, y207, y208, y209, y210, y211, y212, y213, y214, y215, y216, y217, y218, y219, y220, y221, y222, y223, y224, y225, y226, y227, y228, y229, y230, y231, y232, y233, y234, y235, y236, y237, y238, y239, y240, y241, y242, y243, y244, y245, y246, y247, y248, y249, y250, y251, y252, y253, y254, y255, y256, y257, y258, y259, y260, y261, y262, y263, y264, y265, y266, y267, y268, y269, y270, y271, y272, y273, y274, y275, y276, y277, y278, y279, y280, y281, y282, y283, y284, y285, y286, y287, y288, y289, y290, y291, y292, y293, y294, y295, y296, y297, x298, x299, x300, x301, x302, x303, x304, x305, x306, x307, x308, x309, x310, x311, x312, x313, x314, x315, x316, x317, x318, x319, x320, x321, x322, x323, x324, x325, x326, x327, x328, x329, x330], []⟩ wx) :
    Code.wp Try.prog swCode Q ⟨#[x0, x1, x2, x3, x4, .pointer (some ⟨g, 0, none⟩), x6, .pointer (some ⟨hm, 0, none⟩), v8, v9, x10, .pointer (some ⟨ab, 0, none⟩), x12, x13, x14, x15, x16, x17, x18, x19, x20, x21, x22, x23, x24, x25, x26, x27, x28, x29, x30, x31, x32, x33, x34, x35, x36, x37, x38, x39, x40, x41, x42, x43, x44, x45, x46, x47, x48, x49, x50, x51, x52, x53, x54, x55, x56, x57, x58, x59, x60, x61, x62, x63, x64, x65, x66, x67, x68, x69, x70, x71, x72, x73, x74, x75, x76, x77, x78, x79, x80, x81, x82, x83, .int .i64 a.k, x85, x86, x87, x88, x89, x90, x91, x92, x93, x94, x95, x96, x97, x98, x99, x100, x101, x102, x103, x104, x105, x106, x107, x108, x109, x110, x111, x112, x113, x114, x115, x116, x117, x118, x119, x120, x121, x122, x123, x124, x125, x126, x127, x128, x129, x130, x131, x132, x133, x134, x135, x136, x137, x138, x139, x140, x141, x142, x143, x144, x145, x146, x147, x148, x149, x150, x151, x152, x153, x154, x155, x156, x157, x158, x159, x160, x161, x162, x163, x164, x165, x166, x167, x168, x169, x170, x171, x172, x173, x174, x175, x176, x177, x178, x179, x180, x181, x182, x183, x184, x185, x186, x187, x188, x189, x190, x191, x192, x193, x194, x195, x196, x197, x198, x199, x200, x201, x202, x203, x204, x205, x206, x207, x208, x209, x210, x211, x212, x213, x214, x215, x216, x217, x218, x219, x220, x221, x222, x223, x224, x225, x226, x227, x228, x229, x230, x231, x232, x233, x234, x235, x236, x237, x238, x239, x240, x241, x242, x243, x244, x245, x246, x247, x248, x249, x250, x251, x252, x253, x254, x255, x256, x257, x258, x259, x260, x261, x262, x263, x264, x265, x266, x267, x268, x269, x270, x271, x272, x273, x274, x275, x276, x277, x278, x279, x280, x281, x282, x283, x284, x285, x286, x287, x288, x289, x290, x291, x292, x293, x294, x295, x296, x297, x298, x299, x300, x301, x302, x303, x304, x305, x306, x307, x308, x309, x310, x311, x312, x313, x314, x315, x316, x317, x318, x319, x320, x321, x322, x323, x324, x325, x326, x327, x328, x329, x330], []⟩ w := by
  have e0 : (a.k == 0) = false := by rw [beq_eq_false_iff_ne, hk]; decide
  have e1 : (a.k == 1) = true := by rw [hk]; rfl
  obtain ⟨j0, hj0, hy0, hy1a, hy2a⟩ := info_parts info26
  obtain ⟨i0, hi0, hz0, hz1, hz2⟩ := info_parts info51
  have q1 := hab.cell 4
  simp only [List.getElem?_toArray, List.getElem?_cons_zero, List.getElem?_cons_succ] at q1
  have hT := allocT_sim_yes (wd := wd) hst.rep hx hroom
  have hX0 : 2 * M.now.length ≤ 1000 := by have := hst.sim.n; have := hst.sim.s; omega
  generalize hXe : 2 * M.now.length = X0 at hT hX0
  have HXE := hide hXe
  have HT := hide hT
  have HBA := hide hab
  have HST := hide hst
  have HX := hide hexit
  have hsz := hst.sz
  have hs5 := hst.sim.s
  have hneed : needO ⟨4, a.text.size, a.text, []⟩ = (a.text.size + 7) / 8 + 1 := if_pos rfl
  clear hst hexit hk hab hT hXe
  conv => arg 2; whnf
  go_wp2_with fail
  refine (unhide HT).mono ?_
  rintro e w2 ⟨rfl, hrep2, hc2⟩
  have h0 := unhide HST
  have hB := h0.hB
  have n8 := h0.ne8bb
  have n9 := h0.ne9bb
  have nmb := h0.nehmbb
  have hhm := h0.hm_
  have l8 := fun b (hb : v8.ownBlock = some b) => (h0.ws.lt b hb)
  have l9 := fun b (hb : v9.ownBlock = some b) => (h0.rf.lt b hb)
  have hs2 := hc2.size
  have hab2 : Blk w2 ab 49 _ := (unhide HBA).chg hc2 (fun e => by
    rcases e with e | e | e
    · exact Blk.ne_ (unhide HBA) h0.rep.st (by decide) e
    · exact Blk.ne_ (unhide HBA) h0.rep.rn (by decide) e
    · exact Blk.ne_ (unhide HBA) h0.rep.rb (by decide) e)
  have hm2 := h0.m.chg hc2 (by omega)
  have ho2 := h0.objs.chg hc2 (fun b hb _ e => by have h1 := hb.1; have h2 := hb.2.2.1; omega)
  have hw82 := own_chg h0.ws hc2 (fun k hk e => by
    have h1 := l8 k hk
    rcases e with e | e | e
    · omega
    · omega
    · subst e; exact n8 hk)
  have hw92 := own_chg h0.rf hc2 (fun k hk e => by
    have h1 := l9 k hk
    rcases e with e | e | e
    · omega
    · omega
    · subst e; exact n9 hk)
  have HP := hide (put_some all ⟨4, a.text.size, a.text, []⟩ n M.now.length c7 0 A7 none _ w2 ho2 (by omega) ⟨none, 0, rfl, fun h => absurd rfl h⟩ (by dsimp only; omega) (Nat.zero_le _) (by omega) (by omega))
  have q2 := hab2.cell 4
  have m0 := hm2.cell 0
  have m1 := hm2.cell 1
  have m2 := hm2.cell 2
  simp only [List.getElem?_toArray, List.getElem?_cons_zero, List.getElem?_cons_succ] at q2 m0 m1 m2
  have hgt2 : decide ((a.text.size : Int) ≤ 200) = true := decide_eq_true (by omega)
  have hgt3 : (a.text.size : Int) ≤ 200 := by omega
  have HREP2 := hide hrep2
  have HC2 := hide hc2
  have HM2 := hide hm2
  have HW82 := hide hw82
  have HW92 := hide hw92
  have hbm := h0.m.lt
  have HRM := hide (show M.now.length + needO ⟨4, a.text.size, a.text, []⟩ ≤ M.size by omega)
  generalize hN : needO ⟨4, a.text.size, a.text, []⟩ = N at HP
  have HNE := hide hN
  clear h0 hB n8 n9 l8 l9 hab2 hm2 ho2 hw82 hw92 hrep2 hc2 HT HBA hneed hroom hN q1
  try dsimp only
  go_wp2_with fail
  refine (unhide HP).mono ?_
  rintro e w3 ⟨A', c', rfl, hob3, hc3⟩
  have hs3 := hc3.size
  have hq := (((Chg.refl (fun _ => False) w3).alloc (.cells #[.int .i64 (n : Int), .int .i64 ((M.now.length : Int) + (N : Int)), .slice A' (all.length + 1) c'] 45)).alloc (.cells #[.bool false, .int .i64 (all.length : Int)] 51))
  have q4 := cell_old (cell_old q2 hc3) hq
  have hm4 := ((unhide HM2).chg hc3 id).chg hq id
  have g0 := hm4.cell 0
  have g1 := hm4.cell 1
  have g2 := hm4.cell 2
  have f0 := hm4.frozen 0
  have f1 := hm4.frozen 1
  have f2 := hm4.frozen 2
  simp only [List.getElem?_toArray, List.getElem?_cons_zero, List.getElem?_cons_succ] at g0 g1 g2
  have hrb := Blk.new_at (w3.alloc (.cells #[.int .i64 (n : Int), .int .i64 ((M.now.length : Int) + (N : Int)), .slice A' (all.length + 1) c'] 45)) (w3.heap.size + 1) 51 #[.bool false, .int .i64 (all.length : Int)] (by simp)
  have HRB4 := hide hrb
  have HM4 := hide hm4
  have HQ := hide hq
  have HC3 := hide hc3
  have HOB3 := hide hob3
  clear hc3 hob3 hq hm4 q2 m0 m1 m2 HM2 hrb HP
  try dsimp only
  go_upto_region 39 with fail
  obtain ⟨w34, hw34⟩ : ∃ x : World, x = (w3.alloc (.cells #[.int .i64 (n : Int), .int .i64 ((M.now.length : Int) + (N : Int)), .slice A' (all.length + 1) c'] 45)).alloc (.cells #[.bool false, .int .i64 (all.length : Int)] 51) := ⟨_, rfl⟩
  rw [← hw34] at HM4 HQ HRB4 ⊢
  have nS : Chg (fun k => k = hm) w34 (((w34.setCell ⟨hm, 0, none⟩ (.int .i64 (n : Int))).setCell ⟨hm, 1, none⟩ (.int .i64 ((M.now.length : Int) + (N : Int)))).setCell ⟨hm, 2, none⟩ (.slice A' (all.length + 1) c')) := (((Chg.refl (fun k => k = hm) w34).setCell (fun _ => rfl) _).setCell (fun _ => rfl) _).setCell (fun _ => rfl) _
  have o8 := own_chg (own_chg (own_chg (unhide HW82) (unhide HC3) (fun _ _ => id)) (unhide HQ) (fun _ _ => id)) nS (fun k hk e => (unhide HST).ne8hm (e ▸ hk))
  have o9 := own_chg (own_chg (own_chg (unhide HW92) (unhide HC3) (fun _ _ => id)) (unhide HQ) (fun _ _ => id)) nS (fun k hk e => (unhide HST).ne9hm (e ▸ hk))
  have hmW : Blk _ hm 45 #[.int .i64 (n : Int), .int .i64 ((M.now.length : Int) + (N : Int)), .slice A' (all.length + 1) c'] := (((unhide HM4).set_ 0 (.int .i64 (n : Int))).set_ 1 (.int .i64 ((M.now.length : Int) + (N : Int)))).set_ 2 (.slice A' (all.length + 1) c')
  have hrW := (unhide HRB4).chg nS (by omega)
  have hcW : Chg (fun k => k = hm) w2 _ := (((unhide HC3).mono (fun _ _ h => h.elim)).trans (unhide HQ) (fun _ _ h => h.elim)).trans nS (fun _ _ h => h)
  have hobW := ((unhide HOB3).chg (unhide HQ) (fun _ _ _ => id)).chg nS (fun b hb _ e => by
    rcases hb with hb | hb
    · exact hb.2.2.2.1 e
    · omega)
  have hsW := hcW.size
  have HBW := hide (Nat.le_trans hhm (Nat.le_trans (Nat.le_of_lt hbm) (Nat.le_trans hs2 hsW)))
  have NR8 := hide (show v8.ownBlock ≠ some (w3.heap.size + 1) from fun e => by have := ((unhide HW82).lt _ e).2; omega)
  have NR9 := hide (show v9.ownBlock ≠ some (w3.heap.size + 1) from fun e => by have := ((unhide HW92).lt _ e).2; omega)
  generalize ((w34.setCell ⟨hm, 0, none⟩ (.int .i64 (n : Int))).setCell ⟨hm, 1, none⟩ (.int .i64 ((M.now.length : Int) + (N : Int)))).setCell ⟨hm, 2, none⟩ (.slice A' (all.length + 1) c') = W at *
  generalize hrbe : w3.heap.size + 1 = rb at *
  have HW8 := hide o8
  have HW9 := hide o9
  have HMW := hide hmW
  have HRB := hide hrW
  have HCW := hide hcW
  have HOBW := hide hobW
  clear o8 o9 hmW hrW hcW hobW nS g0 g1 g2 f0 f1 f2 q4 HM4 HQ HRB4 HC3 HOB3 hw34
  obtain ⟨S, hSd⟩ : ∃ S : Nat → Prop, S = fun k => v8.ownBlock = some k ∨ v9.ownBlock = some k := ⟨_, rfl⟩
  have s8 : ∀ k, v8.ownBlock = some k → S k := fun k h => by rw [hSd]; exact .inl h
  have s9 : ∀ k, v9.ownBlock = some k → S k := fun k h => by rw [hSd]; exact .inr h
  have hBW : B ≤ W.heap.size := unhide HBW
  have n0 : Chg (fun _ => False) W W := Chg.refl _ W
  have N0 := hide n0.drew
  have N1 := hide (n0.alloc (.cells #[.int .u64 (X0 : Int)] 26)).drew
  have N4 := hide (n0.alloc (.cells #[.bool false, .int .i64 (all.length : Int)] 51)).drew
  have N2 := hide ((n0.alloc (.cells #[.int .u64 (X0 : Int)] 26)).alloc (.cells #[.bool false, .int .i64 (all.length : Int)] 51)).drew
  have N3 := hide ((n0.alloc (.cells #[.bool false, .int .i64 (all.length : Int)] 51)).alloc (.cells #[.int .u64 (X0 : Int)] 26)).drew
  have P81 := hide (own_chg (unhide HW8) (unhide N1) (fun _ _ => id))
  have P91 := hide (own_chg (unhide HW9) (unhide N1) (fun _ _ => id))
  have B1 := hide (Nat.le_trans hBW (unhide N1).size)
  have P82 := hide (own_chg (unhide HW8) (unhide N2) (fun _ _ => id))
  have P92 := hide (own_chg (unhide HW9) (unhide N2) (fun _ _ => id))
  have B2 := hide (Nat.le_trans hBW (unhide N2).size)
  have P83 := hide (own_chg (unhide HW8) (unhide N3) (fun _ _ => id))
  have P93 := hide (own_chg (unhide HW9) (unhide N3) (fun _ _ => id))
  have B3 := hide (Nat.le_trans hBW (unhide N3).size)
  have P84 := hide (own_chg (unhide HW8) (unhide N4) (fun _ _ => id))
  have P94 := hide (own_chg (unhide HW9) (unhide N4) (fun _ _ => id))
  have B4 := hide (Nat.le_trans hBW (unhide N4).size)
  have X1 := hide ((rd_new W W.heap.size 26 [wv X0] rfl).chg (Chg.refl (fun _ => False) _).drew (fun _ _ _ => id))
  have X2 := hide ((rd_new W W.heap.size 26 [wv X0] rfl).chg ((Chg.refl (fun _ => False) _).alloc (.cells #[.bool false, .int .i64 (all.length : Int)] 51)).drew (fun _ _ _ => id))
  have X3 := hide ((rd_new (W.alloc (.cells #[.bool false, .int .i64 (all.length : Int)] 51)) (W.heap.size + 1) 26 [wv X0] (by rw [size_alloc])).chg (Chg.refl (fun _ => False) _).drew (fun _ _ _ => id))
  have Y4 := hide ((rd_new W W.heap.size 51 (rfv (false, (all.length : Int))) rfl).chg (Chg.refl (fun _ => False) _).drew (fun _ _ _ => id))
  have Y3 := hide ((rd_new W W.heap.size 51 (rfv (false, (all.length : Int))) rfl).chg ((Chg.refl (fun _ => False) _).alloc (.cells #[.int .u64 (X0 : Int)] 26)).drew (fun _ _ _ => id))
  have Y2 := hide ((rd_new (W.alloc (.cells #[.int .u64 (X0 : Int)] 26)) (W.heap.size + 1) 51 (rfv (false, (all.length : Int))) (by rw [size_alloc])).chg (Chg.refl (fun _ => False) _).drew (fun _ _ _ => id))
  have KS : ∀ W', Chg S W W' → W'.cell? ⟨rb, 0, none⟩ = some (.bool false) ∧ W'.cell? ⟨rb, 1, none⟩ = some (.int .i64 (all.length : Int)) := by
    intro W' hc
    have hb := (unhide HRB).chg hc (by rw [hSd]; rintro (h | h); exact (unhide NR8) h; exact (unhide NR9) h)
    exact ⟨hb.cell 0, hb.cell 1⟩
  have hx1 : ∀ u ∈ [wv X0], u.oneCell' = true := by intro u hu; simp at hu; subst hu; rfl
  have hy1 : ∀ u ∈ rfv (false, (all.length : Int)), u.oneCell' = true := by intro u hu; simp [rfv] at hu; rcases hu with rfl | rfl <;> rfl
  have mx1 : rs.length + 1 ≤ maxLen := by simp only [maxLen]; omega
  have mx2 : (rs.length + 1) * 8 ≤ 140737488355328 := by omega
  have mx3 : (rs.length + 1) * 16 ≤ 140737488355328 := by omega
  have l8 : ∀ k, v8.ownBlock = some k → k < W.heap.size := fun k h => ((unhide HW8).lt k h).2
  have l9 : ∀ k, v9.ownBlock = some k → k < W.heap.size := fun k h => ((unhide HW9).lt k h).2
  have L8 := hide l8
  have L9 := hide l9
  have S8 := hide s8
  have S9 := hide s9
  have SD := hide hSd
  clear n0 hSd l8 l9 s8 s9
  go_region_held3 (fun W' => W'.cell? ⟨rb, 0, none⟩ = some (.bool false) ∧ W'.cell? ⟨rb, 1, none⟩ = some (.int .i64 (all.length : Int)))
    (first | exact KS _ ((unhide N0).mono (fun _ _ h => h.elim)) | exact KS _ ((unhide N1).mono (fun _ _ h => h.elim)) | exact KS _ ((unhide N4).mono (fun _ _ h => h.elim)) | exact KS _ ((unhide N2).mono (fun _ _ h => h.elim)) | exact KS _ ((unhide N3).mono (fun _ _ h => h.elim)) | exact KS _ (unhide HPC) | exact KS _ (unhide HPCa) | exact KS _ (unhide HQC) | exact KS _ (unhide HQCa) | exact KS _ (unhide HFC) | go_keep)
    (first
    | (refine step_append_rd _ ?_ (.tmp 202) (.tmp 204) 46 ?_ B 26 j0 (.int .u64 0) 1 8 Try.underlying46 hj0 hy0 hy1a hy2a ?_ (Nat.succ_pos 0) v8 rs.length ((rs.map (encR wd)).map wv) ?_ (unhide P81) _ (some ⟨W.heap.size, 0, none⟩) 1 1 [wv X0] ?_ ?_ (unhide X1) hx1 mx1 mx2 (unhide B1) ?_; any_goals (with_unfolding_all rfl)
       intro v3 w3 ho3 hc3 hat
       have h9 := own_chg (unhide P91) hc3 (fun k hk hs => own_own_ne (unhide P81) (unhide P91) (by decide) k hs hk)
       have hpc : Chg S W w3 := (Chg.mono (unhide N1) (fun _ _ h => h.elim)).trans hc3 (fun k _ hs => unhide S8 k hs)
       have HA8 := hide (show v3.ownBlock = v8.ownBlock ∨ ∃ b, v3.ownBlock = some b ∧ W.heap.size ≤ b from hat.imp id (fun e => ⟨_, e, (unhide N1).size⟩))
       have HPB : B ≤ w3.heap.size := Nat.le_trans hBW hpc.size
       have HPBa : B ≤ (w3.alloc (.cells #[.bool false, .int .i64 (all.length : Int)] 51)).heap.size := by rw [size_alloc]; exact Nat.le_succ_of_le HPB
       have HPC := hide hpc
       have HPCa := hide (hpc.alloc (.cells #[.bool false, .int .i64 (all.length : Int)] 51))
       have HF8 := hide ho3
       have HP9 := hide h9
       clear hpc
       clear ho3 hc3 hat h9)
    | (refine step_append_rd _ ?_ (.tmp 202) (.tmp 204) 46 ?_ B 26 j0 (.int .u64 0) 1 8 Try.underlying46 hj0 hy0 hy1a hy2a ?_ (Nat.succ_pos 0) v8 rs.length ((rs.map (encR wd)).map wv) ?_ (unhide P82) _ (some ⟨W.heap.size, 0, none⟩) 1 1 [wv X0] ?_ ?_ (unhide X2) hx1 mx1 mx2 (unhide B2) ?_; any_goals (with_unfolding_all rfl)
       intro v3 w3 ho3 hc3 hat
       have h9 := own_chg (unhide P92) hc3 (fun k hk hs => own_own_ne (unhide P82) (unhide P92) (by decide) k hs hk)
       have hpc : Chg S W w3 := (Chg.mono (unhide N2) (fun _ _ h => h.elim)).trans hc3 (fun k _ hs => unhide S8 k hs)
       have HA8 := hide (show v3.ownBlock = v8.ownBlock ∨ ∃ b, v3.ownBlock = some b ∧ W.heap.size ≤ b from hat.imp id (fun e => ⟨_, e, (unhide N2).size⟩))
       have HPY := hide ((unhide Y2).chg hc3 (fun b hb _ hs => by have h1 := unhide L8 b hs; have h2 : b = _ := hb; omega))
       have HPB : B ≤ w3.heap.size := Nat.le_trans hBW hpc.size
       have HPBa : B ≤ (w3.alloc (.cells #[.bool false, .int .i64 (all.length : Int)] 51)).heap.size := by rw [size_alloc]; exact Nat.le_succ_of_le HPB
       have HPC := hide hpc
       have HPCa := hide (hpc.alloc (.cells #[.bool false, .int .i64 (all.length : Int)] 51))
       have HF8 := hide ho3
       have HP9 := hide h9
       clear hpc
       clear ho3 hc3 hat h9)
    | (refine step_append_rd _ ?_ (.tmp 202) (.tmp 204) 46 ?_ B 26 j0 (.int .u64 0) 1 8 Try.underlying46 hj0 hy0 hy1a hy2a ?_ (Nat.succ_pos 0) v8 rs.length ((rs.map (encR wd)).map wv) ?_ (unhide P83) _ (some ⟨W.heap.size + 1, 0, none⟩) 1 1 [wv X0] ?_ ?_ (unhide X3) hx1 mx1 mx2 (unhide B3) ?_; any_goals (with_unfolding_all rfl)
       intro v3 w3 ho3 hc3 hat
       have h9 := own_chg (unhide P93) hc3 (fun k hk hs => own_own_ne (unhide P83) (unhide P93) (by decide) k hs hk)
       have hpc : Chg S W w3 := (Chg.mono (unhide N3) (fun _ _ h => h.elim)).trans hc3 (fun k _ hs => unhide S8 k hs)
       have HA8 := hide (show v3.ownBlock = v8.ownBlock ∨ ∃ b, v3.ownBlock = some b ∧ W.heap.size ≤ b from hat.imp id (fun e => ⟨_, e, (unhide N3).size⟩))
       have HPY := hide ((unhide Y3).chg hc3 (fun b hb _ hs => by have h1 := unhide L8 b hs; have h2 : b = _ := hb; omega))
       have HPB : B ≤ w3.heap.size := Nat.le_trans hBW hpc.size
       have HPBa : B ≤ (w3.alloc (.cells #[.bool false, .int .i64 (all.length : Int)] 51)).heap.size := by rw [size_alloc]; exact Nat.le_succ_of_le HPB
       have HPC := hide hpc
       have HPCa := hide (hpc.alloc (.cells #[.bool false, .int .i64 (all.length : Int)] 51))
       have HF8 := hide ho3
       have HP9 := hide h9
       clear hpc
       clear ho3 hc3 hat h9)
    | (refine step_append_rd _ ?_ (.tmp 202) (.tmp 204) 46 ?_ B 26 j0 (.int .u64 0) 1 8 Try.underlying46 hj0 hy0 hy1a hy2a ?_ (Nat.succ_pos 0) v8 rs.length ((rs.map (encR wd)).map wv) ?_ ((unhide HQ8).alloc (.cells #[.int .u64 (X0 : Int)] 26)) _ (some ⟨w4.heap.size, 0, none⟩) 1 1 [wv X0] ?_ ?_ (rd_new w4 w4.heap.size 26 [wv X0] rfl) hx1 mx1 mx2 (HQBa) ?_; any_goals (with_unfolding_all rfl)
       intro v3 w3 ho3 hc3 hat
       have h9 := own_chg ((unhide HF9).alloc (.cells #[.int .u64 (X0 : Int)] 26)) hc3 (fun k hk hs => own_own_ne ((unhide HQ8).alloc (.cells #[.int .u64 (X0 : Int)] 26)) ((unhide HF9).alloc (.cells #[.int .u64 (X0 : Int)] 26)) (by decide) k hs hk)
       have HFC := hide ((unhide HQCa).trans hc3 (fun k _ hs => unhide S8 k hs))
       have HA8 := hide (show v3.ownBlock = v8.ownBlock ∨ ∃ b, v3.ownBlock = some b ∧ W.heap.size ≤ b from hat.imp id (fun e => ⟨_, e, (unhide HQCa).size⟩))
       have HF8 := hide ho3
       have HF9 := hide h9
       clear ho3 hc3 hat h9)
    | (refine step_append_rd _ ?_ (.tmp 202) (.tmp 204) 46 ?_ B 26 j0 (.int .u64 0) 1 8 Try.underlying46 hj0 hy0 hy1a hy2a ?_ (Nat.succ_pos 0) v8 rs.length ((rs.map (encR wd)).map wv) ?_ (unhide HQ8) _ (some ⟨W.heap.size, 0, none⟩) 1 1 [wv X0] ?_ ?_ (unhide HQX) hx1 mx1 mx2 (HQB) ?_; any_goals (with_unfolding_all rfl)
       intro v3 w3 ho3 hc3 hat
       have h9 := own_chg (unhide HF9) hc3 (fun k hk hs => own_own_ne (unhide HQ8) (unhide HF9) (by decide) k hs hk)
       have HFC := hide ((unhide HQC).trans hc3 (fun k _ hs => unhide S8 k hs))
       have HA8 := hide (show v3.ownBlock = v8.ownBlock ∨ ∃ b, v3.ownBlock = some b ∧ W.heap.size ≤ b from hat.imp id (fun e => ⟨_, e, (unhide HQC).size⟩))
       have HF8 := hide ho3
       have HF9 := hide h9
       clear ho3 hc3 hat h9)
    | (refine step_append_rd _ ?_ (.tmp 202) (.tmp 204) 46 ?_ B 26 j0 (.int .u64 0) 1 8 Try.underlying46 hj0 hy0 hy1a hy2a ?_ (Nat.succ_pos 0) v8 rs.length ((rs.map (encR wd)).map wv) ?_ (unhide HQ8) _ (some ⟨W.heap.size + 1, 0, none⟩) 1 1 [wv X0] ?_ ?_ (unhide HQX) hx1 mx1 mx2 (HQB) ?_; any_goals (with_unfolding_all rfl)
       intro v3 w3 ho3 hc3 hat
       have h9 := own_chg (unhide HF9) hc3 (fun k hk hs => own_own_ne (unhide HQ8) (unhide HF9) (by decide) k hs hk)
       have HFC := hide ((unhide HQC).trans hc3 (fun k _ hs => unhide S8 k hs))
       have HA8 := hide (show v3.ownBlock = v8.ownBlock ∨ ∃ b, v3.ownBlock = some b ∧ W.heap.size ≤ b from hat.imp id (fun e => ⟨_, e, (unhide HQC).size⟩))
       have HF8 := hide ho3
       have HF9 := hide h9
       clear ho3 hc3 hat h9)
    | (refine step_append_rd _ ?_ (.tmp 206) (.tmp 208) 33 ?_ B 51 i0 (.agg #[.bool false, .int .i64 0]) 2 16 Try.underlying33 hi0 hz0 hz1 hz2 ?_ (Nat.succ_pos 1) v9 rs.length (rs.flatMap rfv) ?_ (unhide P94) _ (some ⟨W.heap.size, 0, none⟩) 1 1 (rfv (false, (all.length : Int))) ?_ ?_ (unhide Y4) hy1 mx1 mx3 (unhide B4) ?_; any_goals (with_unfolding_all rfl)
       intro v4 w4 ho4 hc4 hat4
       have h8 := own_chg (unhide P84) hc4 (fun k hk hs => own_own_ne (unhide P84) (unhide P94) (by decide) k hk hs)
       have hpc : Chg S W w4 := (Chg.mono (unhide N4) (fun _ _ h => h.elim)).trans hc4 (fun k _ hs => unhide S9 k hs)
       have HA9 := hide (show v4.ownBlock = v9.ownBlock ∨ ∃ b, v4.ownBlock = some b ∧ W.heap.size ≤ b from hat4.imp id (fun e => ⟨_, e, (unhide N4).size⟩))
       have HQB : B ≤ w4.heap.size := Nat.le_trans hBW hpc.size
       have HQBa : B ≤ (w4.alloc (.cells #[.int .u64 (X0 : Int)] 26)).heap.size := by rw [size_alloc]; exact Nat.le_succ_of_le HQB
       have HQC := hide hpc
       have HQCa := hide (hpc.alloc (.cells #[.int .u64 (X0 : Int)] 26))
       have HF9 := hide ho4
       have HQ8 := hide h8
       clear hpc
       clear ho4 hc4 hat4 h8)
    | (refine step_append_rd _ ?_ (.tmp 206) (.tmp 208) 33 ?_ B 51 i0 (.agg #[.bool false, .int .i64 0]) 2 16 Try.underlying33 hi0 hz0 hz1 hz2 ?_ (Nat.succ_pos 1) v9 rs.length (rs.flatMap rfv) ?_ (unhide P92) _ (some ⟨W.heap.size + 1, 0, none⟩) 1 1 (rfv (false, (all.length : Int))) ?_ ?_ (unhide Y2) hy1 mx1 mx3 (unhide B2) ?_; any_goals (with_unfolding_all rfl)
       intro v4 w4 ho4 hc4 hat4
       have h8 := own_chg (unhide P82) hc4 (fun k hk hs => own_own_ne (unhide P82) (unhide P92) (by decide) k hk hs)
       have hpc : Chg S W w4 := (Chg.mono (unhide N2) (fun _ _ h => h.elim)).trans hc4 (fun k _ hs => unhide S9 k hs)
       have HA9 := hide (show v4.ownBlock = v9.ownBlock ∨ ∃ b, v4.ownBlock = some b ∧ W.heap.size ≤ b from hat4.imp id (fun e => ⟨_, e, (unhide N2).size⟩))
       have HQX := hide ((unhide X2).chg hc4 (fun b hb _ hs => by have h1 := unhide L9 b hs; have h2 : b = _ := hb; omega))
       have HQB : B ≤ w4.heap.size := Nat.le_trans hBW hpc.size
       have HQBa : B ≤ (w4.alloc (.cells #[.int .u64 (X0 : Int)] 26)).heap.size := by rw [size_alloc]; exact Nat.le_succ_of_le HQB
       have HQC := hide hpc
       have HQCa := hide (hpc.alloc (.cells #[.int .u64 (X0 : Int)] 26))
       have HF9 := hide ho4
       have HQ8 := hide h8
       clear hpc
       clear ho4 hc4 hat4 h8)
    | (refine step_append_rd _ ?_ (.tmp 206) (.tmp 208) 33 ?_ B 51 i0 (.agg #[.bool false, .int .i64 0]) 2 16 Try.underlying33 hi0 hz0 hz1 hz2 ?_ (Nat.succ_pos 1) v9 rs.length (rs.flatMap rfv) ?_ (unhide P93) _ (some ⟨W.heap.size, 0, none⟩) 1 1 (rfv (false, (all.length : Int))) ?_ ?_ (unhide Y3) hy1 mx1 mx3 (unhide B3) ?_; any_goals (with_unfolding_all rfl)
       intro v4 w4 ho4 hc4 hat4
       have h8 := own_chg (unhide P83) hc4 (fun k hk hs => own_own_ne (unhide P83) (unhide P93) (by decide) k hk hs)
       have hpc : Chg S W w4 := (Chg.mono (unhide N3) (fun _ _ h => h.elim)).trans hc4 (fun k _ hs => unhide S9 k hs)
       have HA9 := hide (show v4.ownBlock = v9.ownBlock ∨ ∃ b, v4.ownBlock = some b ∧ W.heap.size ≤ b from hat4.imp id (fun e => ⟨_, e, (unhide N3).size⟩))
       have HQX := hide ((unhide X3).chg hc4 (fun b hb _ hs => by have h1 := unhide L9 b hs; have h2 : b = _ := hb; omega))
       have HQB : B ≤ w4.heap.size := Nat.le_trans hBW hpc.size
       have HQBa : B ≤ (w4.alloc (.cells #[.int .u64 (X0 : Int)] 26)).heap.size := by rw [size_alloc]; exact Nat.le_succ_of_le HQB
       have HQC := hide hpc
       have HQCa := hide (hpc.alloc (.cells #[.int .u64 (X0 : Int)] 26))
       have HF9 := hide ho4
       have HQ8 := hide h8
       clear hpc
       clear ho4 hc4 hat4 h8)
    | (refine step_append_rd _ ?_ (.tmp 206) (.tmp 208) 33 ?_ B 51 i0 (.agg #[.bool false, .int .i64 0]) 2 16 Try.underlying33 hi0 hz0 hz1 hz2 ?_ (Nat.succ_pos 1) v9 rs.length (rs.flatMap rfv) ?_ ((unhide HP9).alloc (.cells #[.bool false, .int .i64 (all.length : Int)] 51)) _ (some ⟨w3.heap.size, 0, none⟩) 1 1 (rfv (false, (all.length : Int))) ?_ ?_ (rd_new w3 w3.heap.size 51 (rfv (false, (all.length : Int))) rfl) hy1 mx1 mx3 (HPBa) ?_; any_goals (with_unfolding_all rfl)
       intro v4 w4 ho4 hc4 hat4
       have h8 := own_chg ((unhide HF8).alloc (.cells #[.bool false, .int .i64 (all.length : Int)] 51)) hc4 (fun k hk hs => own_own_ne ((unhide HF8).alloc (.cells #[.bool false, .int .i64 (all.length : Int)] 51)) ((unhide HP9).alloc (.cells #[.bool false, .int .i64 (all.length : Int)] 51)) (by decide) k hk hs)
       have HFC := hide ((unhide HPCa).trans hc4 (fun k _ hs => unhide S9 k hs))
       have HA9 := hide (show v4.ownBlock = v9.ownBlock ∨ ∃ b, v4.ownBlock = some b ∧ W.heap.size ≤ b from hat4.imp id (fun e => ⟨_, e, (unhide HPCa).size⟩))
       have HF9 := hide ho4
       have HF8 := hide h8
       clear ho4 hc4 hat4 h8)
    | (refine step_append_rd _ ?_ (.tmp 206) (.tmp 208) 33 ?_ B 51 i0 (.agg #[.bool false, .int .i64 0]) 2 16 Try.underlying33 hi0 hz0 hz1 hz2 ?_ (Nat.succ_pos 1) v9 rs.length (rs.flatMap rfv) ?_ (unhide HP9) _ (some ⟨W.heap.size + 1, 0, none⟩) 1 1 (rfv (false, (all.length : Int))) ?_ ?_ (unhide HPY) hy1 mx1 mx3 (HPB) ?_; any_goals (with_unfolding_all rfl)
       intro v4 w4 ho4 hc4 hat4
       have h8 := own_chg (unhide HF8) hc4 (fun k hk hs => own_own_ne (unhide HF8) (unhide HP9) (by decide) k hk hs)
       have HFC := hide ((unhide HPC).trans hc4 (fun k _ hs => unhide S9 k hs))
       have HA9 := hide (show v4.ownBlock = v9.ownBlock ∨ ∃ b, v4.ownBlock = some b ∧ W.heap.size ≤ b from hat4.imp id (fun e => ⟨_, e, (unhide HPC).size⟩))
       have HF9 := hide ho4
       have HF8 := hide h8
       clear ho4 hc4 hat4 h8)
    | (refine step_append_rd _ ?_ (.tmp 206) (.tmp 208) 33 ?_ B 51 i0 (.agg #[.bool false, .int .i64 0]) 2 16 Try.underlying33 hi0 hz0 hz1 hz2 ?_ (Nat.succ_pos 1) v9 rs.length (rs.flatMap rfv) ?_ (unhide HP9) _ (some ⟨W.heap.size, 0, none⟩) 1 1 (rfv (false, (all.length : Int))) ?_ ?_ (unhide HPY) hy1 mx1 mx3 (HPB) ?_; any_goals (with_unfolding_all rfl)
       intro v4 w4 ho4 hc4 hat4
       have h8 := own_chg (unhide HF8) hc4 (fun k hk hs => own_own_ne (unhide HF8) (unhide HP9) (by decide) k hk hs)
       have HFC := hide ((unhide HPC).trans hc4 (fun k _ hs => unhide S9 k hs))
       have HA9 := hide (show v4.ownBlock = v9.ownBlock ∨ ∃ b, v4.ownBlock = some b ∧ W.heap.size ≤ b from hat4.imp id (fun e => ⟨_, e, (unhide HPC).size⟩))
       have HF9 := hide ho4
       have HF8 := hide h8
       clear ho4 hc4 hat4 h8))
  all_goals
    try dsimp only
    go_wp2_with fail
    refine unhide HX _ _ _ _ _ _ _ _ _ _ _ _ _ _ _ _ _ _ _ _ _ _ _ _ _ _ _ _ _ _ _ _ _ _ _ _ _ _ _ _ _ _ _ _ _ _ _ _ _ _ _ _ _ _ _ _ _ _ _ _ _ _ _ _ _ _ _ _ _ _ _ _ _ _ _ _ _ _ _ _ _ _ _ _ _ _ _ _ _ _ _ _ _ _ _ _ _ _ _ _ _ _ _ _ _ _ _ _ _ _ _ _ _ _ _ _ _ _ _ _ _ _ _ _ _ _ _ _ _ _ _ _ _ _ _ _ _ _ _ _ _ _ _ _ _ _ _ _ _ _ _ _ _ _ _ _ _ _ _ _ _ _ _ _ _ _ _ _ _ _ _ _ _ _ _ _ _ _ _ _ _ _ _ _ _ _ _ _ _ _ _ _ _ _ _ _ _ _ _ _ _ _ _ _ _ _ _ _ _ _ _ _ _ _ _ _ _ _ _ _ _ _ _ _ _ _ _ _ _ _ _ _ _ _ _ _ _ _ ?_
    exact (unhide HST).fin ⟨by dsimp only; omega, by dsimp only; omega, by dsimp only; omega, by dsimp only; omega, fun _ => ⟨rfl, rfl, hx⟩, fun e => absurd rfl e, by simp⟩ (fun r hr => absurd hr (by simp)) (unhide HNE) (unhide HXE) (unhide HRM) (unhide HREP2) (unhide HC2) (unhide HCW) (unhide HFC) (unhide SD) (unhide HMW) (unhide HOBW) (unhide HF8) (unhide HF9) (unhide HA8) (unhide HA9) hal hrl
end Go.Proofs.Ytlgkgglecgdkgaa
