/-
  The switch of HeapPlays where a text is refused.
-/
import Derived.Test.YtlgkgglecgdkgaaSwa
namespace Go.Proofs.Ytlgkgglecgdkgaa
open Go.RowKit
set_option maxHeartbeats 2000000
set_option maxRecDepth 1000000
theorem sw_one_no (x0 x1 x2 x3 x4 x6 x10 x12 x13 x14 x15 x16 x17 x18 x19 x20 x21 x22 x23 x24 x25 x26 x27 x28 x29 x30 x31 x32 x33 x34 x35 x36 x37 x38 x39 x40 x41 x42 x43 x44 x45 x46 x47 x48 x49 x50 x51 x52 x53 x54 x55 x56 x57 x58 x59 x60 x61 x62 x63 x64 x65 x66 x67 x68 x69 x70 x71 x72 x73 x74 x75 x76 x77 x78 x79 x80 x81 x82 x83 x85 x86 x87 x88 x89 x90 x91 x92 x93 x94 x95 x96 x97 x98 x99 x100 x101 x102 x103 x104 x105 x106 x107 x108 x109 x110 x111 x112 x113 x114 x115 x116 x117 x118 x119 x120 x121 x122 x123 x124 x125 x126 x127 x128 x129 x130 x131 x132 x133 x134 x135 x136 x137 x138 x139 x140 x141 x142 x143 x144 x145 x146 x147 x148 x149 x150 x151 x152 x153 x154 x155 x156 x157 x158 x159 x160 x161 x162 x163 x164 x165 x166 x167 x168 x169 x170 x171 x172 x173 x174 x175 x176 x177 x178 x179 x180 x181 x182 x183 x184 x185 x186 x187 x188 x189 x190 x191 x192 x193 x194 x195 x196 x197 x198 x199 x200 x201 x202 x203 x204 x205 x206 x207 x208 x209 x210 x211 x212 x213 x214 x215 x216 x217 x218 x219 x220 x221 x222 x223 x224 x225 x226 x227 x228 x229 x230 x231 x232 x233 x234 x235 x236 x237 x238 x239 x240 x241 x242 x243 x244 x245 x246 x247 x248 x249 x250 x251 x252 x253 x254 x255 x256 x257 x258 x259 x260 x261 x262 x263 x264 x265 x266 x267 x268 x269 x270 x271 x272 x273 x274 x275 x276 x277 x278 x279 x280 x281 x282 x283 x284 x285 x286 x287 x288 x289 x290 x291 x292 x293 x294 x295 x296 x297 x298 x299 x300 x301 x302 x303 x304 x305 x306 x307 x308 x309 x310 x311 x312 x313 x314 x315 x316 x317 x318 x319 x320 x321 x322 x323 x324 x325 x326 x327 x328 x329 x330 v8 v9 : Value) (w0 w : World) (B n g bn bo bb hm ab j pc : Nat) (pA : Option Addr) (M : HM) (all : List ObjM) (L : List Int) (wd : Int → Nat) (rs : List Rf) (A7 : Option Addr) (c7 : Nat) (a : ActM)
    (hst : PSt w0 w B n g bn bo bb hm M all L wd rs v8 v9 A7 c7) (hal : all.length ≤ j) (hrl : rs.length ≤ j) (hj : j ≤ 60) (hab : Blk w ab 49 #[.int .i64 a.k, .int .i64 a.kind, .int .i64 a.tag, .slice pA a.parts.length pc, .string a.text, .int .i64 a.at_, .int .i64 a.by_, .int .i64 a.keep])
    (hpl : a.parts.length ≤ 20) (htl : a.text.size ≤ 300) (hk : a.k = 1) (hno : ¬ (a.text.size ≤ 200 ∧ M.now.length + (a.text.size + 7) / 8 + 1 ≤ M.size))
    (Q : Exit → Act → World → Prop) (hexit : ∀ (v8' v9' y12 y13 y14 y15 y16 y17 y18 y19 y20 y21 y22 y23 y24 y25 y26 y27 y28 y29 y30 y31 y32 y33 y85 y86 y87 y88 y89 y90 y91 y92 y93 y94 y95 y96 y97 y98 y99 y100 y101 y102 y103 y104 y105 y106 y107 y108 y109 y110 y111 y112 y113 y114 y115 y116 y117 y118 y119 y120 y121 y122 y123 y124 y125 y126 y127 y128 y129 y130 y131 y132 y133 y134 y135 y136 y137 y138 y139 y140 y141 y142 y143 y144 y145 y146 y147 y148 y149 y150 y151 y152 y153 y154 y155 y156 y157 y158 y159 y160 y161 y162 y163 y164 y165 y166 y167 y168 y169 y170 y171 y172 y173 y174 y175 y176 y177 y178 y179 y180 y181 y182 y183 y184 y185 y186 y187 y188 y189 y190 y191 y192 y193 y194 y195 y196 y197 y198 y199 y200 y201 y202 y203 y204 y205 y206 y207 y208 y209 y210 y211 y212 y213 y214 y215 y216 y217 y218 y219 y220 y221 y222 y223 y224 y225 y226 y227 y228 y229 y230 y231 y232 y233 y234 y235 y236 y237 y238 y239 y240 y241 y242 y243 y244 y245 y246 y247 y248 y249 y250 y251 y252 y253 y254 y255 y256 y257 y258 y259 y260 y261 y262 y263 y264 y265 y266 y267 y268 y269 y270 y271 y272 y273 y274 y275 y276 y277 y278 y279 y280 y281 y282 y283 y284 y285 y286 y287 y288 y289 y290 y291 y292 y293 y294 y295 y296 y297 : Value) (wx : World), SwR w0 B n g hm j v8' v9' wx → Q .normal ⟨#[x0, x1, x2, x3, x4, .pointer (some ⟨g, 0, none⟩), x6, .pointer (some ⟨hm, 0, none⟩), v8', v9', x10, .pointer (some ⟨ab, 0, none⟩), y12, y13, y14, y15, y16, y17, y18, y19, y20, y21, y22, y23, y24, y25, y26, y27, y28, y29, y30, y31, y32, y33, x34, x35, x36, x37, x38, x39, x40, x41, x42, x43, x44, x45, x46, x47, x48, x49, x50, x51, x52, x53, x54, x55, x56, x57, x58, x59, x60, x61, x62, x63, x64, x65, x66, x67, x68, x69, x70, x71, x72, x73, x74, x75, x76, x77, x78, x79, x80, x81, x82, x83, .int .i64 a.k, y85, y86, y87, y88, y89, y90, y91, y92, y93, y94, y95, y96, y97, y98, y99, y100, y101, y102, y103, y104, y105, y106, y107, y108, y109, y110, y111, y112, y113, y114, y115, y116, y117, y118, y119, y120, y121, y122, y123, y124, y125, y126, y127, y128, y129, y130, y131, y132, y133, y134, y135, y136, y137, y138, y139, y140, y141, y142, y143, y144, y145, y146, y147, y148, y149, y150, y151, y152, y153, y154, y155, y156, y157, y158, y159, y160, y161, y162, y163, y164, y165, y166, y167, y168, y169, y170, y171, y172, y173, y174, y175, y176, y177, y178, y179, y180, y181, y182, y183, y184, y185, y186, y187, y188, y189, y190, y191, y192, y193, y194, y195, y196, y197, y198, y199, y200, y201, y202, y203, y204, y205, y206, y207, y208, y209, y210, y211, y212, y213, y214, y215, y216, y217, y218, y219, y220, y221, y222, y223, y224, y225, y226, y227, y228, y229, y230, y231, y232, y233, y234, y235, y236, y237, y238, y239, y240, y241, y242, y243, y244, y245, y246, y247, y248, y249, y250, y251, y252, y253, y254, y255, y256, y257, y258, y259, y260, y261, y262, y263, y264, y265, y266, y267, y268, y269, y270, y271, y272, y273, y274, y275, y276, y277, y278, y279, y280, y281, y282, y283, y284, y285, y286, y287, y288, y289, y290, y291, y292, y293, y294, y295, y296, y297, x298, x299, x300, x301, x302, x303, x304, x305, x306, x307, x308, x309, x310, x311, x312, x313, x314, x315, x316, x317, x318, x319, x320, x321, x322, x323, x324, x325, x326, x327, x328, x329, x330], []⟩ wx) :
    Code.wp Try.prog swCode Q ⟨#[x0, x1, x2, x3, x4, .pointer (some ⟨g, 0, none⟩), x6, .pointer (some ⟨hm, 0, none⟩), v8, v9, x10, .pointer (some ⟨ab, 0, none⟩), x12, x13, x14, x15, x16, x17, x18, x19, x20, x21, x22, x23, x24, x25, x26, x27, x28, x29, x30, x31, x32, x33, x34, x35, x36, x37, x38, x39, x40, x41, x42, x43, x44, x45, x46, x47, x48, x49, x50, x51, x52, x53, x54, x55, x56, x57, x58, x59, x60, x61, x62, x63, x64, x65, x66, x67, x68, x69, x70, x71, x72, x73, x74, x75, x76, x77, x78, x79, x80, x81, x82, x83, .int .i64 a.k, x85, x86, x87, x88, x89, x90, x91, x92, x93, x94, x95, x96, x97, x98, x99, x100, x101, x102, x103, x104, x105, x106, x107, x108, x109, x110, x111, x112, x113, x114, x115, x116, x117, x118, x119, x120, x121, x122, x123, x124, x125, x126, x127, x128, x129, x130, x131, x132, x133, x134, x135, x136, x137, x138, x139, x140, x141, x142, x143, x144, x145, x146, x147, x148, x149, x150, x151, x152, x153, x154, x155, x156, x157, x158, x159, x160, x161, x162, x163, x164, x165, x166, x167, x168, x169, x170, x171, x172, x173, x174, x175, x176, x177, x178, x179, x180, x181, x182, x183, x184, x185, x186, x187, x188, x189, x190, x191, x192, x193, x194, x195, x196, x197, x198, x199, x200, x201, x202, x203, x204, x205, x206, x207, x208, x209, x210, x211, x212, x213, x214, x215, x216, x217, x218, x219, x220, x221, x222, x223, x224, x225, x226, x227, x228, x229, x230, x231, x232, x233, x234, x235, x236, x237, x238, x239, x240, x241, x242, x243, x244, x245, x246, x247, x248, x249, x250, x251, x252, x253, x254, x255, x256, x257, x258, x259, x260, x261, x262, x263, x264, x265, x266, x267, x268, x269, x270, x271, x272, x273, x274, x275, x276, x277, x278, x279, x280, x281, x282, x283, x284, x285, x286, x287, x288, x289, x290, x291, x292, x293, x294, x295, x296, x297, x298, x299, x300, x301, x302, x303, x304, x305, x306, x307, x308, x309, x310, x311, x312, x313, x314, x315, x316, x317, x318, x319, x320, x321, x322, x323, x324, x325, x326, x327, x328, x329, x330], []⟩ w := by
  have e0 : (a.k == 0) = false := by rw [beq_eq_false_iff_ne, hk]; decide
  have e1 : (a.k == 1) = true := by rw [hk]; rfl
  have q1 := hab.cell 4
  have m0 := hst.m.cell 0
  have m1 := hst.m.cell 1
  have m2 := hst.m.cell 2
  simp only [List.getElem?_toArray, List.getElem?_cons_zero, List.getElem?_cons_succ] at q1 m0 m1 m2
  have hT := allocT_sim_no hst.rep (by omega) hno
  have HT := hide hT
  have HBA := hide hab
  have HST := hide hst
  have HX := hide hexit
  have hn5 : n ≤ 500 := by have := hst.sim.s; have := hst.sz; omega
  have hsz := hst.sz
  have hnn := hst.sim.n
  clear hst hexit hk hab hT
  conv => arg 2; whnf
  go_wp2_with fail
  refine (unhide HT).mono ?_
  rintro e w2 ⟨rfl, hrep2, hc2⟩
  have hst2 : PSt w0 w2 B n g bn bo bb hm M all L wd rs v8 v9 A7 c7 := by
    have h0 := unhide HST
    have hB := h0.hB
    have hw := h0.hw
    have n8 := h0.ne8bb
    have n9 := h0.ne9bb
    have l8 := fun b (hb : v8.ownBlock = some b) => h0.ws.lt b hb
    have l9 := fun b (hb : v9.ownBlock = some b) => h0.rf.lt b hb
    have hmb := h0.nehmbb
    have hhm := h0.hm_
    have hs2 := hc2.size
    refine ⟨hrep2, h0.sim, h0.sz, hB, hw, hhm, h0.m.chg hc2 (by omega), (h0.objs.chg hc2 (fun b hb _ e => ?_)).mono (fun b hb => ⟨hb.1, by have := hb.2.1; omega, hb.2.2⟩), own_chg h0.ws hc2 (fun k hk e => ?_), own_chg h0.rf hc2 (fun k hk e => ?_), h0.cl, h0.ch.trans hc2 (fun b hb e => by omega)⟩
    · have h1 := hb.1
      have h2 := hb.2.2.1
      omega
    · have h1 := l8 k hk
      rcases e with e | e | e
      · omega
      · omega
      · subst e; exact n8 hk
    · have h1 := l9 k hk
      rcases e with e | e | e
      · omega
      · omega
      · subst e; exact n9 hk
  have hab2 : Blk w2 ab 49 _ := (unhide HBA).chg hc2 (fun e => by
    have h0 := unhide HST
    rcases e with e | e | e
    · exact Blk.ne_ (unhide HBA) h0.rep.st (by decide) e
    · exact Blk.ne_ (unhide HBA) h0.rep.rn (by decide) e
    · exact Blk.ne_ (unhide HBA) h0.rep.rb (by decide) e)
  have q2 := hab2.cell 4
  have m0 := hst2.m.cell 0
  have m1 := hst2.m.cell 1
  have m2 := hst2.m.cell 2
  simp only [List.getElem?_toArray, List.getElem?_cons_zero, List.getElem?_cons_succ] at q2 m0 m1 m2
  have HST2 := hide hst2
  have HBA2 := hide hab2
  clear HT HBA q1 hst2 hab2 hrep2
  have hneed : needO ⟨4, a.text.size, a.text, []⟩ = (a.text.size + 7) / 8 + 1 := if_pos rfl
  by_cases hr : M.now.length + needO ⟨4, a.text.size, a.text, []⟩ ≤ n
  · have hgt : ¬ a.text.size ≤ 200 := fun h => hno ⟨h, by omega⟩
    have hgt2 : decide ((a.text.size : Int) ≤ 200) = false := decide_eq_false (by omega)
    have hgt3 : ¬ (a.text.size : Int) ≤ 200 := by omega
    have HP := hide (put_some all ⟨4, a.text.size, a.text, []⟩ n M.now.length c7 0 A7 none _ w2 (unhide HST2).objs (by omega) ⟨none, 0, rfl, fun h => absurd rfl h⟩ (by dsimp only; omega) (Nat.zero_le _) (by omega) hr)
    generalize needO ⟨4, a.text.size, a.text, []⟩ = N at *
    clear hno hneed hr
    try dsimp only
    go_wp2_with fail
    refine (unhide HP).mono ?_
    rintro e w3 ⟨A', c', rfl, hob3, hc3⟩
    have q3 := cell_old q2 hc3
    have HC3 := hide hc3
    have hq := (((Chg.refl (fun _ => False) w3).alloc (.cells #[.int .i64 (n : Int), .int .i64 ((M.now.length : Int) + (N : Int)), .slice A' (all.length + 1) c'] 45)).alloc (.cells #[.bool false, .int .i64 (all.length : Int)] 51))
    have q4 := cell_old q3 hq
    have HQ := hide hq
    clear hc3 hob3 hq q2
    try dsimp only
    go_wp2_with fail
    refine unhide HX _ _ _ _ _ _ _ _ _ _ _ _ _ _ _ _ _ _ _ _ _ _ _ _ _ _ _ _ _ _ _ _ _ _ _ _ _ _ _ _ _ _ _ _ _ _ _ _ _ _ _ _ _ _ _ _ _ _ _ _ _ _ _ _ _ _ _ _ _ _ _ _ _ _ _ _ _ _ _ _ _ _ _ _ _ _ _ _ _ _ _ _ _ _ _ _ _ _ _ _ _ _ _ _ _ _ _ _ _ _ _ _ _ _ _ _ _ _ _ _ _ _ _ _ _ _ _ _ _ _ _ _ _ _ _ _ _ _ _ _ _ _ _ _ _ _ _ _ _ _ _ _ _ _ _ _ _ _ _ _ _ _ _ _ _ _ _ _ _ _ _ _ _ _ _ _ _ _ _ _ _ _ _ _ _ _ _ _ _ _ _ _ _ _ _ _ _ _ _ _ _ _ _ _ _ _ _ _ _ _ _ _ _ _ _ _ _ _ _ _ _ _ _ _ _ _ _ _ _ _ _ _ _ _ _ _ _ _ ?_
    exact ⟨bn, bo, bb, M, all, L, wd, rs, A7, c7, by omega, by omega, ((unhide HST2).old (unhide HC3)).old (unhide HQ)⟩
  · have HP := hide (put_none ⟨4, a.text.size, a.text, []⟩ n M.now.length all.length c7 0 A7 none w2 (by dsimp only; omega) (Nat.zero_le _) (by omega) (by omega) (by omega))
    clear hno hneed hr
    try dsimp only
    go_wp2_with fail
    refine (unhide HP).mono ?_
    rintro e w3 ⟨rfl, hc3⟩
    have q3 := cell_old q2 hc3
    have HC3 := hide hc3
    have hq := (((Chg.refl (fun _ => False) w3).alloc (.cells #[.int .i64 (n : Int), .int .i64 (M.now.length : Int), .slice A7 all.length c7] 45)).alloc (.cells #[.bool true, .int .i64 0] 51))
    have q4 := cell_old q3 hq
    have HQ := hide hq
    clear hc3 hq q2
    try dsimp only
    go_wp2_with fail
    refine unhide HX _ _ _ _ _ _ _ _ _ _ _ _ _ _ _ _ _ _ _ _ _ _ _ _ _ _ _ _ _ _ _ _ _ _ _ _ _ _ _ _ _ _ _ _ _ _ _ _ _ _ _ _ _ _ _ _ _ _ _ _ _ _ _ _ _ _ _ _ _ _ _ _ _ _ _ _ _ _ _ _ _ _ _ _ _ _ _ _ _ _ _ _ _ _ _ _ _ _ _ _ _ _ _ _ _ _ _ _ _ _ _ _ _ _ _ _ _ _ _ _ _ _ _ _ _ _ _ _ _ _ _ _ _ _ _ _ _ _ _ _ _ _ _ _ _ _ _ _ _ _ _ _ _ _ _ _ _ _ _ _ _ _ _ _ _ _ _ _ _ _ _ _ _ _ _ _ _ _ _ _ _ _ _ _ _ _ _ _ _ _ _ _ _ _ _ _ _ _ _ _ _ _ _ _ _ _ _ _ _ _ _ _ _ _ _ _ _ _ _ _ _ _ _ _ _ _ _ _ _ _ _ _ _ _ _ _ _ _ ?_
    exact ⟨bn, bo, bb, M, all, L, wd, rs, A7, c7, by omega, by omega, ((unhide HST2).old (unhide HC3)).old (unhide HQ)⟩
end Go.Proofs.Ytlgkgglecgdkgaa
