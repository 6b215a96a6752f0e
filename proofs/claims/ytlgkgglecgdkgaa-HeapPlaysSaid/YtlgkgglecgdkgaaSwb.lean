/-
  The switch of HeapPlays where a part is set.
-/
import Derived.Test.YtlgkgglecgdkgaaSwa
namespace Go.Proofs.Ytlgkgglecgdkgaa
open Go.RowKit
set_option maxHeartbeats 2000000
set_option maxRecDepth 1000000
theorem sw_two (x0 x1 x2 x3 x4 x6 x10 x12 x13 x14 x15 x16 x17 x18 x19 x20 x21 x22 x23 x24 x25 x26 x27 x28 x29 x30 x31 x32 x33 x34 x35 x36 x37 x38 x39 x40 x41 x42 x43 x44 x45 x46 x47 x48 x49 x50 x51 x52 x53 x54 x55 x56 x57 x58 x59 x60 x61 x62 x63 x64 x65 x66 x67 x68 x69 x70 x71 x72 x73 x74 x75 x76 x77 x78 x79 x80 x81 x82 x83 x85 x86 x87 x88 x89 x90 x91 x92 x93 x94 x95 x96 x97 x98 x99 x100 x101 x102 x103 x104 x105 x106 x107 x108 x109 x110 x111 x112 x113 x114 x115 x116 x117 x118 x119 x120 x121 x122 x123 x124 x125 x126 x127 x128 x129 x130 x131 x132 x133 x134 x135 x136 x137 x138 x139 x140 x141 x142 x143 x144 x145 x146 x147 x148 x149 x150 x151 x152 x153 x154 x155 x156 x157 x158 x159 x160 x161 x162 x163 x164 x165 x166 x167 x168 x169 x170 x171 x172 x173 x174 x175 x176 x177 x178 x179 x180 x181 x182 x183 x184 x185 x186 x187 x188 x189 x190 x191 x192 x193 x194 x195 x196 x197 x198 x199 x200 x201 x202 x203 x204 x205 x206 x207 x208 x209 x210 x211 x212 x213 x214 x215 x216 x217 x218 x219 x220 x221 x222 x223 x224 x225 x226 x227 x228 x229 x230 x231 x232 x233 x234 x235 x236 x237 x238 x239 x240 x241 x242 x243 x244 x245 x246 x247 x248 x249 x250 x251 x252 x253 x254 x255 x256 x257 x258 x259 x260 x261 x262 x263 x264 x265 x266 x267 x268 x269 x270 x271 x272 x273 x274 x275 x276 x277 x278 x279 x280 x281 x282 x283 x284 x285 x286 x287 x288 x289 x290 x291 x292 x293 x294 x295 x296 x297 x298 x299 x300 x301 x302 x303 x304 x305 x306 x307 x308 x309 x310 x311 x312 x313 x314 x315 x316 x317 x318 x319 x320 x321 x322 x323 x324 x325 x326 x327 x328 x329 x330 v8 v9 : Value) (w0 w : World) (B n g bn bo bb hm ab j pc : Nat) (pA : Option Addr) (M : HM) (all : List ObjM) (L : List Int) (wd : Int → Nat) (rs : List Rf) (A7 : Option Addr) (c7 : Nat) (a : ActM)
    (hst : PSt w0 w B n g bn bo bb hm M all L wd rs v8 v9 A7 c7) (hal : all.length ≤ j) (hrl : rs.length ≤ j) (hj : j ≤ 60) (hab : Blk w ab 49 #[.int .i64 a.k, .int .i64 a.kind, .int .i64 a.tag, .slice pA a.parts.length pc, .string a.text, .int .i64 a.at_, .int .i64 a.by_, .int .i64 a.keep])
    (hpl : a.parts.length ≤ 20) (htl : a.text.size ≤ 300) (hk : a.k = 2)
    (Q : Exit → Act → World → Prop) (hexit : ∀ (v8' v9' y12 y13 y14 y15 y16 y17 y18 y19 y20 y21 y22 y23 y24 y25 y26 y27 y28 y29 y30 y31 y32 y33 y85 y86 y87 y88 y89 y90 y91 y92 y93 y94 y95 y96 y97 y98 y99 y100 y101 y102 y103 y104 y105 y106 y107 y108 y109 y110 y111 y112 y113 y114 y115 y116 y117 y118 y119 y120 y121 y122 y123 y124 y125 y126 y127 y128 y129 y130 y131 y132 y133 y134 y135 y136 y137 y138 y139 y140 y141 y142 y143 y144 y145 y146 y147 y148 y149 y150 y151 y152 y153 y154 y155 y156 y157 y158 y159 y160 y161 y162 y163 y164 y165 y166 y167 y168 y169 y170 y171 y172 y173 y174 y175 y176 y177 y178 y179 y180 y181 y182 y183 y184 y185 y186 y187 y188 y189 y190 y191 y192 y193 y194 y195 y196 y197 y198 y199 y200 y201 y202 y203 y204 y205 y206 y207 y208 y209 y210 y211 y212 y213 y214 y215 y216 y217 y218 y219 y220 y221 y222 y223 y224 y225 y226 y227 y228 y229 y230 y231 y232 y233 y234 y235 y236 y237 y238 y239 y240 y241 y242 y243 y244 y245 y246 y247 y248 y249 y250 y251 y252 y253 y254 y255 y256 y257 y258 y259 y260 y261 y262 y263 y264 y265 y266 y267 y268 y269 y270 y271 y272 y273 y274 y275 y276 y277 y278 y279 y280 y281 y282 y283 y284 y285 y286 y287 y288 y289 y290 y291 y292 y293 y294 y295 y296 y297 : Value) (wx : World), SwR w0 B n g hm j v8' v9' wx → Q .normal ⟨#[x0, x1, x2, x3, x4, .pointer (some ⟨g, 0, none⟩), x6, .pointer (some ⟨hm, 0, none⟩), v8', v9', x10, .pointer (some ⟨ab, 0, none⟩), y12, y13, y14, y15, y16, y17, y18, y19, y20, y21, y22, y23, y24, y25, y26, y27, y28, y29, y30, y31, y32, y33, x34, x35, x36, x37, x38, x39, x40, x41, x42, x43, x44, x45, x46, x47, x48, x49, x50, x51, x52, x53, x54, x55, x56, x57, x58, x59, x60, x61, x62, x63, x64, x65, x66, x67, x68, x69, x70, x71, x72, x73, x74, x75, x76, x77, x78, x79, x80, x81, x82, x83, .int .i64 a.k, y85, y86, y87, y88, y89, y90, y91, y92, y93, y94, y95, y96, y97, y98, y99, y100, y101, y102, y103, y104, y105, y106, y107, y108, y109, y110, y111, y112, y113, y114, y115, y116, y117, y118, y119, y120, y121, y122, y123, y124, y125, y126, y127, y128, y129, y130, y131, y132, y133, y134, y135, y136, y137, y138, y139, y140, y141, y142, y143, y144, y145, y146, y147, y148, y149, y150, y151, y152, y153, y154, y155, y156, y157, y158, y159, y160, y161, y162, y163, y164, y165, y166, y167, y168, y169, y170, y171, y172, y173, y174, y175, y176, y177, y178, y179, y180, y181, y182, y183, y184, y185, y186, y187, y188, y189, y190, y191, y192, y193, y194, y195, y196, y197, y198, y199, y200, y201, y202, y203, y204, y205, y206, y207, y208, y209, y210, y211, y212, y213, y214, y215, y216, y217, y218, y219, y220, y221, y222, y223, y224, y225, y226, y227, y228, y229, y230, y231, y232, y233, y234, y235, y236, y237, y238, y239, y240, y241, y242, y243, y244, y245, y246, y247, y248, y249, y250, y251, y252, y253, y254, y255, y256, y257, y258, y259, y260, y261, y262, y263, y264, y265, y266, y267, y268, y269, y270, y271, y272, y273, y274, y275, y276, y277, y278, y279, y280, y281, y282, y283, y284, y285, y286, y287, y288, y289, y290, y291, y292, y293, y294, y295, y296, y297, x298, x299, x300, x301, x302, x303, x304, x305, x306, x307, x308, x309, x310, x311, x312, x313, x314, x315, x316, x317, x318, x319, x320, x321, x322, x323, x324, x325, x326, x327, x328, x329, x330], []⟩ wx) :
    Code.wp Try.prog swCode Q ⟨#[x0, x1, x2, x3, x4, .pointer (some ⟨g, 0, none⟩), x6, .pointer (some ⟨hm, 0, none⟩), v8, v9, x10, .pointer (some ⟨ab, 0, none⟩), x12, x13, x14, x15, x16, x17, x18, x19, x20, x21, x22, x23, x24, x25, x26, x27, x28, x29, x30, x31, x32, x33, x34, x35, x36, x37, x38, x39, x40, x41, x42, x43, x44, x45, x46, x47, x48, x49, x50, x51, x52, x53, x54, x55, x56, x57, x58, x59, x60, x61, x62, x63, x64, x65, x66, x67, x68, x69, x70, x71, x72, x73, x74, x75, x76, x77, x78, x79, x80, x81, x82, x83, .int .i64 a.k, x85, x86, x87, x88, x89, x90, x91, x92, x93, x94, x95, x96, x97, x98, x99, x100, x101, x102, x103, x104, x105, x106, x107, x108, x109, x110, x111, x112, x113, x114, x115, x116, x117, x118, x119, x120, x121, x122, x123, x124, x125, x126, x127, x128, x129, x130, x131, x132, x133, x134, x135, x136, x137, x138, x139, x140, x141, x142, x143, x144, x145, x146, x147, x148, x149, x150, x151, x152, x153, x154, x155, x156, x157, x158, x159, x160, x161, x162, x163, x164, x165, x166, x167, x168, x169, x170, x171, x172, x173, x174, x175, x176, x177, x178, x179, x180, x181, x182, x183, x184, x185, x186, x187, x188, x189, x190, x191, x192, x193, x194, x195, x196, x197, x198, x199, x200, x201, x202, x203, x204, x205, x206, x207, x208, x209, x210, x211, x212, x213, x214, x215, x216, x217, x218, x219, x220, x221, x222, x223, x224, x225, x226, x227, x228, x229, x230, x231, x232, x233, x234, x235, x236, x237, x238, x239, x240, x241, x242, x243, x244, x245, x246, x247, x248, x249, x250, x251, x252, x253, x254, x255, x256, x257, x258, x259, x260, x261, x262, x263, x264, x265, x266, x267, x268, x269, x270, x271, x272, x273, x274, x275, x276, x277, x278, x279, x280, x281, x282, x283, x284, x285, x286, x287, x288, x289, x290, x291, x292, x293, x294, x295, x296, x297, x298, x299, x300, x301, x302, x303, x304, x305, x306, x307, x308, x309, x310, x311, x312, x313, x314, x315, x316, x317, x318, x319, x320, x321, x322, x323, x324, x325, x326, x327, x328, x329, x330], []⟩ w := by
  have e0 : (a.k == 0) = false := by rw [beq_eq_false_iff_ne, hk]; decide
  have e1 : (a.k == 1) = false := by rw [beq_eq_false_iff_ne, hk]; decide
  have e2 : (a.k == 2) = true := by rw [hk]; rfl
  obtain ⟨A8, c8, rfl⟩ := own_val hst.ws
  obtain ⟨A9, c9, rfl⟩ := own_val hst.rf
  have hp1 := pick_sim a.at_ rs wd A8 A9 c8 c9 _ _ w (by omega) (own_rd hst.ws (by omega)) (own_rd hst.rf (by omega))
  have hcl1 := pickR_cl hst.cl a.at_
  have hcl2 := pickR_cl hst.cl a.by_
  have x5 := hab.cell 5
  simp only [List.getElem?_toArray, List.getElem?_cons_zero, List.getElem?_cons_succ] at x5
  generalize hr1 : pickR rs a.at_ = r1 at *
  generalize hr2 : pickR rs a.by_ = r2 at *
  have HR2 := hide hr2
  have HP1 := hide hp1
  have HBA := hide hab
  have HCL1 := hide hcl1
  have HCL2 := hide hcl2
  have HST := hide hst
  have HX := hide hexit
  clear hst hexit hk hab hp1 hcl1 hcl2 hr1 hr2
  conv => arg 2; whnf
  try dsimp only
  go_wp2_with fail
  refine (unhide HP1).mono ?_
  rintro e w3 ⟨rfl, hc3⟩
  have h3 := hc3.alloc (.cells #[.bool r1.1, .int .i64 r1.2] 51)
  have hst3 := (unhide HST).old h3
  have hp2 := pick_sim a.by_ rs wd A8 A9 c8 c9 _ _ (w3.alloc (.cells #[.bool r1.1, .int .i64 r1.2] 51)) (by omega) (own_rd hst3.ws (by omega)) (own_rd hst3.rf (by omega))
  rw [unhide HR2] at hp2
  have hba3 := ((unhide HBA).chg hc3 id).alloc (.cells #[.bool r1.1, .int .i64 r1.2] 51)
  have x6 := hba3.cell 6
  simp only [List.getElem?_toArray, List.getElem?_cons_zero, List.getElem?_cons_succ] at x6
  have HP2 := hide hp2
  have HBA3 := hide hba3
  have HB1 := hide (Blk.new w3 51 #[.bool r1.1, .int .i64 r1.2])
  have H3 := hide h3
  clear hc3 h3 hst3 hp2 hba3 HP1 HBA x5
  try dsimp only
  go_wp2_with fail
  refine (unhide HP2).mono ?_
  rintro e w5 ⟨rfl, hc5⟩
  have h5 := ((unhide H3).trans' hc5).alloc (.cells #[.bool r2.1, .int .i64 r2.2] 51)
  have hst5 := (unhide HST).old h5
  have hba5 := ((unhide HBA3).chg hc5 id).alloc (.cells #[.bool r2.1, .int .i64 r2.2] 51)
  have hb15 := ((unhide HB1).chg hc5 id).alloc (.cells #[.bool r2.1, .int .i64 r2.2] 51)
  have hb25 := Blk.new w5 51 #[.bool r2.1, .int .i64 r2.2]
  have x2 := hba5.cell 2
  have y0 := hb15.cell 0
  have y1 := hb15.cell 1
  simp only [List.getElem?_toArray, List.getElem?_cons_zero, List.getElem?_cons_succ] at x2 y0 y1
  have HST5 := hide hst5
  have HBA5 := hide hba5
  have HB15 := hide hb15
  have HB25 := hide hb25
  have H5 := hide h5
  clear hc5 h5 hst5 hba5 hb15 hb25 HP2 HBA3 HB1 H3 HR2 x6
  generalize hW5 : w5.alloc (.cells #[.bool r2.1, .int .i64 r2.2] 51) = W5 at HST5 HBA5 HB15 HB25 H5
  have x2w := x2
  have y0w := y0
  have y1w := y1
  rw [hW5] at x2w y0w y1w
  have HW5 := hide hW5
  obtain ⟨rb, ri⟩ := r1
  cases hh : hasR all (rb, ri) a.tag
  · have HSP := hide (set_sim_no (unhide HST5).sim (by_ := r2) (unhide HST5).rep (unhide HCL1) hh)
    cases rb with
    | true =>
      clear hh hW5
      try dsimp only
      go_wp2_with fail
      rw [unhide HW5]
      refine (unhide HSP).mono ?_
      rintro e w' ⟨rfl, rfl⟩
      try dsimp only
      go_wp2_with fail
      go_quiet (fail)
      try dsimp only
      go_wp2_with fail
      refine unhide HX _ _ _ _ _ _ _ _ _ _ _ _ _ _ _ _ _ _ _ _ _ _ _ _ _ _ _ _ _ _ _ _ _ _ _ _ _ _ _ _ _ _ _ _ _ _ _ _ _ _ _ _ _ _ _ _ _ _ _ _ _ _ _ _ _ _ _ _ _ _ _ _ _ _ _ _ _ _ _ _ _ _ _ _ _ _ _ _ _ _ _ _ _ _ _ _ _ _ _ _ _ _ _ _ _ _ _ _ _ _ _ _ _ _ _ _ _ _ _ _ _ _ _ _ _ _ _ _ _ _ _ _ _ _ _ _ _ _ _ _ _ _ _ _ _ _ _ _ _ _ _ _ _ _ _ _ _ _ _ _ _ _ _ _ _ _ _ _ _ _ _ _ _ _ _ _ _ _ _ _ _ _ _ _ _ _ _ _ _ _ _ _ _ _ _ _ _ _ _ _ _ _ _ _ _ _ _ _ _ _ _ _ _ _ _ _ _ _ _ _ _ _ _ _ _ _ _ _ _ _ _ _ _ _ _ _ _ _ ?_
      exact ⟨bn, bo, bb, M, all, L, wd, rs, _, c7, by omega, by omega, (unhide HST5).old ((Chg.refl _ _).drewN _)⟩
    | false =>
      have hi : ri ∈ L := (unhide HCL1).2 rfl
      obtain ⟨cn, rfl, hcl2, hobj⟩ := ((unhide HST5).sim.cls (by omega)).at_ hi
      obtain ⟨ba, oa, rfl, _, hca⟩ := (unhide HST5).objs.flat (by rintro rfl; simp at hcl2)
      obtain ⟨v3, hat⟩ := hca cn _ hobj
      have z3 := hat.c3
      obtain ⟨Pp, cpp, rfl, _⟩ := hat.ps
      have z4 := (unhide HST5).m.cell 2
      simp only [List.getElem?_toArray, List.getElem?_cons_zero, List.getElem?_cons_succ] at z4
      have z3w := z3
      have z4w := z4
      rw [← unhide HW5] at z3 z4
      unfold hasR at hh
      simp only [Bool.not_false, Bool.true_and, decide_eq_false_iff_not] at hh
      generalize objAt all (cn : Int) = ob at *
      have hcl3 : (cn : Int) < (all.length : Int) := by omega
      have hcase : (a.tag < 0 ∧ decide (0 ≤ a.tag) = false) ∨ (0 ≤ a.tag ∧ decide (0 ≤ a.tag) = true ∧ ¬ a.tag < (ob.parts.length : Int) ∧ decide (a.tag < (ob.parts.length : Int)) = false) := by
        by_cases h0 : 0 ≤ a.tag
        · have h3 : ¬ a.tag < (ob.parts.length : Int) := fun h => hh ⟨h0, h⟩
          exact .inr ⟨h0, decide_eq_true h0, h3, decide_eq_false h3⟩
        · exact .inl ⟨by omega, decide_eq_false h0⟩
      clear hh hW5 hca hat hobj
      rcases hcase with ⟨t0, t1⟩ | ⟨t0, t1, t2, t3⟩
      all_goals
        try dsimp only
        go_wp2_with fail
        rw [unhide HW5]
        refine (unhide HSP).mono ?_
        rintro e w' ⟨rfl, rfl⟩
        try dsimp only
        go_wp2_with fail
        go_quiet (fail)
        try dsimp only
        go_wp2_with fail
        refine unhide HX _ _ _ _ _ _ _ _ _ _ _ _ _ _ _ _ _ _ _ _ _ _ _ _ _ _ _ _ _ _ _ _ _ _ _ _ _ _ _ _ _ _ _ _ _ _ _ _ _ _ _ _ _ _ _ _ _ _ _ _ _ _ _ _ _ _ _ _ _ _ _ _ _ _ _ _ _ _ _ _ _ _ _ _ _ _ _ _ _ _ _ _ _ _ _ _ _ _ _ _ _ _ _ _ _ _ _ _ _ _ _ _ _ _ _ _ _ _ _ _ _ _ _ _ _ _ _ _ _ _ _ _ _ _ _ _ _ _ _ _ _ _ _ _ _ _ _ _ _ _ _ _ _ _ _ _ _ _ _ _ _ _ _ _ _ _ _ _ _ _ _ _ _ _ _ _ _ _ _ _ _ _ _ _ _ _ _ _ _ _ _ _ _ _ _ _ _ _ _ _ _ _ _ _ _ _ _ _ _ _ _ _ _ _ _ _ _ _ _ _ _ _ _ _ _ _ _ _ _ _ _ _ _ _ _ _ _ _ ?_
        exact ⟨bn, bo, bb, M, all, L, wd, rs, _, c7, by omega, by omega, (unhide HST5).old ((Chg.refl _ _).drewN _)⟩
  · unfold hasR at hh
    simp only [Bool.and_eq_true, Bool.not_eq_true', decide_eq_true_eq] at hh
    obtain ⟨hrb, ht0, htl⟩ := hh
    obtain rfl : rb = false := hrb
    have hi : ri ∈ L := (unhide HCL1).2 rfl
    obtain ⟨p, hp⟩ := Int.eq_ofNat_of_zero_le ht0
    rw [hp] at htl
    have hpl2 : p < (objAt all ri).parts.length := by omega
    obtain ⟨cn, hcn, hcl2, hobj⟩ := ((unhide HST5).sim.cls (by omega)).at_ hi
    have HSP := hide (set_sim_yes (unhide HST5).sim (unhide HST5).rep hi (unhide HCL2) hpl2)
    rw [← hp] at HSP
    have hpl3 := ((unhide HST5).sim.ok ri hi).pl
    have HI := hide hi
    have HPL2 := hide hpl2
    have HHP := hide hp
    have HHC := hide hcn
    have HOBJ := hide hobj
    clear hi ht0 htl hp hcn hobj hW5
    try dsimp only
    go_wp2_with fail
    rw [unhide HW5]
    refine (unhide HSP).mono ?_
    rintro e w6 ⟨rfl, hrep6, hc6⟩
    have hn26 : ∀ {k : Nat} {t : TypeId} {cs : Array Value}, Blk W5 k t cs → t ≠ 26 → ¬ k = bn := fun hk ht e => by
      subst e
      exact Blk.ne_ hk (unhide HST5).rep.rn ht rfl
    have x2w := ((unhide HBA5).chg hc6 (hn26 (unhide HBA5) (by decide))).cell 2
    have hb16 := (unhide HB15).chg hc6 (hn26 (unhide HB15) (by decide))
    have hb26 := (unhide HB25)
    have hb27 := hb26.chg hc6 (hn26 hb26 (by decide))
    have y0w := hb16.cell 0
    have y1w := hb16.cell 1
    have v0w := hb27.cell 0
    have v1w := hb27.cell 1
    have hm6 := (unhide HST5).m.chg hc6 (hn26 (unhide HST5).m (by decide))
    have z0w := hm6.cell 0
    have z1w := hm6.cell 1
    have z2w := hm6.cell 2
    have f0w := hm6.frozen 0
    have f1w := hm6.frozen 1
    have f2w := hm6.frozen 2
    have hob6 := (unhide HST5).objs.chg hc6 (fun b hb _ e => by have := hb.1; have := (unhide HST5).hB; omega)
    obtain ⟨ba, oa, rfl, _, hca⟩ := hob6.flat (by rintro rfl; simp at hcl2)
    obtain ⟨v3, hat⟩ := hca cn _ (unhide HOBJ)
    have z3w := hat.c3
    obtain ⟨Pp, cpp, rfl, _⟩ := hat.ps
    simp only [List.getElem?_toArray, List.getElem?_cons_zero, List.getElem?_cons_succ] at x2w y0w y1w v0w v1w z0w z1w z2w
    have hset := fun W (hc : Chg (fun _ => False) w6 W) => set_any all (n : Int) (M.now.length : Int) cn p c7 _ _ (objAt all ri) r2 W (hob6.chg hc (fun _ _ _ => id)) (by omega) (unhide HOBJ) (unhide HPL2) (by omega)
    rw [unhide HHC] at y1w
    rw [unhide HHP] at x2w
    have HSET := hide hset
    have HREP6 := hide hrep6
    have HC6 := hide hc6
    have HM6 := hide hm6
    have hcl3 : (cn : Int) < (all.length : Int) := by omega
    have ht1 : decide (0 ≤ (p : Int)) = true := decide_eq_true (by omega)
    have ht2 : ((p : Int) < ((objAt all ri).parts.length : Int)) := by have := unhide HPL2; omega
    have ht3 : decide ((p : Int) < ((objAt all ri).parts.length : Int)) = true := decide_eq_true ht2
    have hs6 := hc6.size
    clear hset hrep6 hc6 hm6 hob6 hca hat hb16 hb26 hb27 hn26
    try dsimp only
    go_wp2_with fail
    go_quiet (fail)
    try dsimp only
    go_wp2_with fail
    refine (unhide HSET _ ((Chg.refl _ w6).drewN _)).mono ?_
    rintro e w7 ⟨A', c', rfl, hob7, hc7⟩
    have hm7 := (show Blk (w6.drewN _) _ _ _ from unhide HM6).chg hc7 id
    have z0w := hm7.cell 0
    have z1w := hm7.cell 1
    have z2w := hm7.cell 2
    have f0w := hm7.frozen 0
    have f1w := hm7.frozen 1
    have f2w := hm7.frozen 2
    simp only [List.getElem?_toArray, List.getElem?_cons_zero, List.getElem?_cons_succ] at z0w z1w z2w
    have HM7 := hide hm7
    have HOB7 := hide hob7
    have HC7 := hide hc7
    clear hm7 hob7 hc7
    try dsimp only
    go_wp2_with fail
    obtain rfl := unhide HHC
    have hst5 := unhide HST5
    have hS7 : Chg (fun k => k = hm) w6 w7 := ((Chg.refl (fun k => k = hm) w6).drewN _).trans (unhide HC7) (fun _ _ h => h.elim)
    have h79 := (((Chg.refl (fun k => k = hm) w7).setCell (p := ⟨hm, 0, none⟩) (fun _ => rfl) (.int .i64 (n : Int))).setCell (p := ⟨hm, 1, none⟩) (fun _ => rfl) (.int .i64 (M.now.length : Int))).setCell (p := ⟨hm, 2, none⟩) (fun _ => rfl) (.slice A' all.length c')
    have hm9 : Blk (((w7.setCell ⟨hm, 0, none⟩ (.int .i64 (n : Int))).setCell ⟨hm, 1, none⟩ (.int .i64 (M.now.length : Int))).setCell ⟨hm, 2, none⟩ (.slice A' all.length c')) hm 45 #[.int .i64 (n : Int), .int .i64 (M.now.length : Int), .slice A' all.length c'] := (((unhide HM7).set_ 0 _).set_ 1 _).set_ 2 _
    have hob9 := (unhide HOB7).chg h79 (fun b hb _ e => by
      rcases hb with hb | hb
      · exact hb.2.2.2.1 e
      · have h1 : w6.heap.size ≤ b := hb
        have h2 := hst5.m.lt
        omega)
    have h69 := hS7.trans h79 (S := fun k => k = hm) (fun _ _ h => h)
    refine unhide HX _ _ _ _ _ _ _ _ _ _ _ _ _ _ _ _ _ _ _ _ _ _ _ _ _ _ _ _ _ _ _ _ _ _ _ _ _ _ _ _ _ _ _ _ _ _ _ _ _ _ _ _ _ _ _ _ _ _ _ _ _ _ _ _ _ _ _ _ _ _ _ _ _ _ _ _ _ _ _ _ _ _ _ _ _ _ _ _ _ _ _ _ _ _ _ _ _ _ _ _ _ _ _ _ _ _ _ _ _ _ _ _ _ _ _ _ _ _ _ _ _ _ _ _ _ _ _ _ _ _ _ _ _ _ _ _ _ _ _ _ _ _ _ _ _ _ _ _ _ _ _ _ _ _ _ _ _ _ _ _ _ _ _ _ _ _ _ _ _ _ _ _ _ _ _ _ _ _ _ _ _ _ _ _ _ _ _ _ _ _ _ _ _ _ _ _ _ _ _ _ _ _ _ _ _ _ _ _ _ _ _ _ _ _ _ _ _ _ _ _ _ _ _ _ _ _ _ _ _ _ _ _ _ _ _ _ _ _ ?_
    refine ⟨bn, bo, bb, _, _, L, wd, rs, A', c', ?_, by omega, hst5.setp (unhide HI) (unhide HPL2) (unhide HCL2) (unhide HREP6) (unhide HC6) h69 (fun b hb _ => hb) ?_ ?_⟩
    · rw [List.length_set]; omega
    · rw [List.length_set]; exact hm9
    · exact hob9.mono (fun b hb => by
        rcases hb with hb | hb
        · exact .inl hb
        · have h1 : w6.heap.size ≤ b := hb
          exact .inr (by omega))
end Go.Proofs.Ytlgkgglecgdkgaa
