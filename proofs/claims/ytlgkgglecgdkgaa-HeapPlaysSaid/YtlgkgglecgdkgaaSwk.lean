/-
  Region 51 of HeapPlays: what is kept is collected, and its references are laid anew, in whatever order.
-/
import Derived.Deep.RegionHeld3
import Derived.Test.YtlgkgglecgdkgaaSwj
namespace Go.Proofs.Ytlgkgglecgdkgaa
open Go.RowKit
set_option maxHeartbeats 4000000
set_option maxRecDepth 1000000
noncomputable def reg51C : Code := (Try.f4.body.bind (findReg 51)).getD .skip
/-- What a collection leaves. -/
structure C51 (g bn bo : Nat) (M : HM) (all : List ObjM) (fin : List Int) (rs' : List Rf) (W w5 : World) (M' : HM) (d ob : Nat) : Prop where
  rep : HRep w5 g bo bn d M'
  out : Blk w5 ob 26 ((rs'.map (encR (wd2 all fin))).map wv).toArray
  dl : W.heap.size ≤ d
  ol : W.heap.size ≤ ob
  chg : Chg (fun i => i = g ∨ i = bn ∨ i = bo) W w5
  sim : Sim M' all fin (wd2 all fin)
  cl : ∀ r ∈ rs', ClR fin r
  sz : M'.size = M.size
def R51 (g bn bo : Nat) (M : HM) (all : List ObjM) (fin : List Int) (rs' : List Rf) (W w9 : World) (ob : Nat) (v9 : Value) : Prop :=
  ∃ (M' : HM) (d : Nat) (w5 : World) (S : Nat → Prop), C51 g bn bo M all fin rs' W w5 M' d ob ∧ Chg S w5 w9 ∧ (∀ b, S b → b < w5.heap.size → W.heap.size ≤ b ∧ b ≠ d ∧ b ≠ ob) ∧ w9.ownsRow W.heap.size 51 2 v9 rs'.length (rs'.flatMap rfv)
theorem C51.same {g bn bo d ob : Nat} {M M' : HM} {all : List ObjM} {fin : List Int} {rs' : List Rf} {W w5 : World} {v9 : Value} (h : C51 g bn bo M all fin rs' W w5 M' d ob) (h9 : w5.ownsRow W.heap.size 51 2 v9 rs'.length (rs'.flatMap rfv)) : R51 g bn bo M all fin rs' W w5 ob v9 :=
  ⟨M', d, w5, fun _ => False, h, Chg.refl _ _, fun _ h => h.elim, h9⟩
theorem C51.more {g bn bo d ob n : Nat} {M M' : HM} {all : List ObjM} {fin : List Int} {rs' : List Rf} {W w5 wx w4 : World} {v v9 : Value} {xs : List Value} (h : C51 g bn bo M all fin rs' W w5 M' d ob) (hD : Chg (fun _ => False) w5 wx) (h9 : wx.ownsRow W.heap.size 51 2 v n xs)
    (hc : Chg (fun k => v.ownBlock = some k) wx w4) (ho : w4.ownsRow W.heap.size 51 2 v9 rs'.length (rs'.flatMap rfv)) : R51 g bn bo M all fin rs' W w4 ob v9 := by
  refine ⟨M', d, w5, fun k => v.ownBlock = some k, h, (hD.mono (fun _ _ h => h.elim)).trans hc (fun _ _ h => h), fun b hb _ => ⟨(h9.lt b hb).1, ?_, ?_⟩, ho⟩
  · rintro rfl
    exact own_blk_ne h9 (h.rep.rb.chg hD id) (by decide) hb
  · rintro rfl
    exact own_blk_ne h9 (h.out.chg hD id) (by decide) hb
theorem reg51 (x0 x1 x2 x3 x4 x6 x7 x10 x11 x12 x13 x14 x15 x16 x17 x18 x19 x20 x21 x22 x23 x24 x25 x26 x27 x28 x29 x30 x31 x32 x34 x35 x36 x37 x38 x39 x40 x41 x42 x43 x44 x45 x46 x47 x48 x49 x50 x51 x52 x53 x54 x55 x56 x57 x58 x59 x60 x61 x62 x63 x64 x65 x66 x67 x68 x69 x70 x71 x72 x73 x74 x75 x76 x77 x78 x79 x80 x81 x82 x83 x84 x85 x86 x87 x88 x89 x90 x91 x92 x93 x94 x95 x96 x97 x98 x99 x100 x101 x102 x103 x104 x105 x106 x107 x108 x109 x110 x111 x112 x113 x114 x115 x116 x117 x118 x119 x120 x121 x122 x123 x124 x125 x126 x127 x128 x129 x130 x131 x132 x133 x134 x135 x136 x137 x138 x139 x140 x141 x142 x143 x144 x145 x146 x147 x148 x149 x150 x151 x152 x153 x154 x155 x156 x157 x158 x159 x160 x161 x162 x163 x164 x165 x166 x167 x168 x169 x170 x171 x172 x173 x174 x175 x176 x177 x178 x179 x180 x181 x182 x183 x184 x185 x186 x187 x188 x189 x190 x191 x192 x193 x194 x195 x196 x197 x198 x199 x200 x201 x202 x203 x204 x205 x206 x207 x208 x209 x210 x211 x212 x213 x214 x215 x216 x217 x218 x219 x220 x221 x222 x223 x224 x225 x226 x227 x228 x229 x230 x231 x232 x233 x234 x235 x236 x237 x238 x239 x240 x241 x242 x243 x244 x245 x246 x247 x248 x249 x250 x251 x252 x253 x254 x255 x256 x257 x258 x259 x260 x261 x262 x263 x264 x265 x266 x267 x268 x269 x270 x271 x272 x273 x274 x275 x276 x277 x278 x279 x280 x281 x282 x283 x284 x285 x286 x287 x288 x289 x290 x291 x292 x293 x294 x295 x296 x297 x298 x299 x300 x301 x302 x303 x304 x305 x306 x307 x308 x309 x310 x311 x312 x313 x314 x315 x316 x317 x318 x319 x320 x321 x322 x323 x324 x325 x326 x327 x328 x329 x330 v8 v9 : Value) (fr : Int) (W : World) (g bn bo cf8 cf9 : Nat) (Af8 Af9 : Option Addr) (T8 T9 : Nat → Prop) (M : HM) (all : List ObjM) (fin : List Int) (wd : Int → Nat) (rs' : List Rf) (hl : rs'.length ≤ 1000) (hgb : g < W.heap.size ∧ bn < W.heap.size ∧ bo < W.heap.size)
    (hs8 : ∀ W', (Instr.slice 46 v8 (some (.int .i64 fr)) none none).run Try.prog W' = .ok (.slice Af8 rs'.length cf8) W') (hs9 : ∀ W', (Instr.slice 33 v9 (some (.int .i64 fr)) none none).run Try.prog W' = .ok (.slice Af9 rs'.length cf9) W')
    (hr8 : Rd T8 W Af8 ((rs'.map (encR wd)).map wv)) (hr9 : Rd T9 W Af9 (rs'.flatMap rfv)) (ht9 : ∀ b, T9 b → ¬ (b = g ∨ b = bn ∨ b = bo))
    (hcf : ∀ w3 A3 c3, Chg (fun _ => False) W w3 → w3.ownsRow W.heap.size 26 1 (.slice A3 rs'.length c3) rs'.length ((rs'.map (encR wd)).map wv) → Calls Try.prog 21 #[.pointer (some ⟨g, 0, none⟩), .slice A3 rs'.length c3] w3 fun e w' => ∃ M' d ob, e = .returned (.slice (some ⟨ob, 0, none⟩) rs'.length rs'.length) ∧ C51 g bn bo M all fin rs' W w' M' d ob ∧ Chg (fun i => i = g ∨ i = bn ∨ i = bo) w3 w')
    (Q : Exit → Act → World → Prop) (hexit : ∀ (ob : Nat) (v9' y277 y278 y279 y280 y281 y282 y283 y284 y285 y286 y287 y288 : Value) (w9 : World), R51 g bn bo M all fin rs' W w9 ob v9' → Q .normal ⟨#[x0, x1, x2, x3, x4, .pointer (some ⟨g, 0, none⟩), x6, x7, .slice (some ⟨ob, 0, none⟩) rs'.length rs'.length, v9', x10, x11, x12, x13, x14, x15, x16, x17, x18, x19, x20, x21, x22, x23, x24, x25, x26, x27, x28, x29, x30, x31, x32, .int .i64 fr, x34, x35, x36, x37, x38, x39, x40, x41, x42, x43, x44, x45, x46, x47, x48, x49, x50, x51, x52, x53, x54, x55, x56, x57, x58, x59, x60, x61, x62, x63, x64, x65, x66, x67, x68, x69, x70, x71, x72, x73, x74, x75, x76, x77, x78, x79, x80, x81, x82, x83, x84, x85, x86, x87, x88, x89, x90, x91, x92, x93, x94, x95, x96, x97, x98, x99, x100, x101, x102, x103, x104, x105, x106, x107, x108, x109, x110, x111, x112, x113, x114, x115, x116, x117, x118, x119, x120, x121, x122, x123, x124, x125, x126, x127, x128, x129, x130, x131, x132, x133, x134, x135, x136, x137, x138, x139, x140, x141, x142, x143, x144, x145, x146, x147, x148, x149, x150, x151, x152, x153, x154, x155, x156, x157, x158, x159, x160, x161, x162, x163, x164, x165, x166, x167, x168, x169, x170, x171, x172, x173, x174, x175, x176, x177, x178, x179, x180, x181, x182, x183, x184, x185, x186, x187, x188, x189, x190, x191, x192, x193, x194, x195, x196, x197, x198, x199, x200, x201, x202, x203, x204, x205, x206, x207, x208, x209, x210, x211, x212, x213, x214, x215, x216, x217, x218, x219, x220, x221, x222, x223, x224, x225, x226, x227, x228, x229, x230, x231, x232, x233, x234, x235, x236, x237, x238, x239, x240, x241, x242, x243, x244, x245, x246, x247, x248, x249, x250, x251, x252, x253, x254, x255, x256, x257, x258, x259, x260, x261, x262, x263, x264, x265, x266, x267, x268, x269, x270, x271, x272, x273, x274, x275, x276, y277, y278, y279, y280, y281, y282, y283, y284, y285, y286, y287, y288, x289, x290, x291, x292, x293, x294, x295, x296, x297, x298, x299, x300, x301, x302, x303, x304, x305, x306, x307, x308, x309, x310, x311, x312, x313, x314, x315, x316, x317, x318, x319, x320, x321, x322, x323, x324, x325, x326, x327, x328, x329, x330], []⟩ w9) :
    Code.wp Try.prog reg51C Q ⟨#[x0, x1, x2, x3, x4, .pointer (some ⟨g, 0, none⟩), x6, x7, v8, v9, x10, x11, x12, x13, x14, x15, x16, x17, x18, x19, x20, x21, x22, x23, x24, x25, x26, x27, x28, x29, x30, x31, x32, .int .i64 fr, x34, x35, x36, x37, x38, x39, x40, x41, x42, x43, x44, x45, x46, x47, x48, x49, x50, x51, x52, x53, x54, x55, x56, x57, x58, x59, x60, x61, x62, x63, x64, x65, x66, x67, x68, x69, x70, x71, x72, x73, x74, x75, x76, x77, x78, x79, x80, x81, x82, x83, x84, x85, x86, x87, x88, x89, x90, x91, x92, x93, x94, x95, x96, x97, x98, x99, x100, x101, x102, x103, x104, x105, x106, x107, x108, x109, x110, x111, x112, x113, x114, x115, x116, x117, x118, x119, x120, x121, x122, x123, x124, x125, x126, x127, x128, x129, x130, x131, x132, x133, x134, x135, x136, x137, x138, x139, x140, x141, x142, x143, x144, x145, x146, x147, x148, x149, x150, x151, x152, x153, x154, x155, x156, x157, x158, x159, x160, x161, x162, x163, x164, x165, x166, x167, x168, x169, x170, x171, x172, x173, x174, x175, x176, x177, x178, x179, x180, x181, x182, x183, x184, x185, x186, x187, x188, x189, x190, x191, x192, x193, x194, x195, x196, x197, x198, x199, x200, x201, x202, x203, x204, x205, x206, x207, x208, x209, x210, x211, x212, x213, x214, x215, x216, x217, x218, x219, x220, x221, x222, x223, x224, x225, x226, x227, x228, x229, x230, x231, x232, x233, x234, x235, x236, x237, x238, x239, x240, x241, x242, x243, x244, x245, x246, x247, x248, x249, x250, x251, x252, x253, x254, x255, x256, x257, x258, x259, x260, x261, x262, x263, x264, x265, x266, x267, x268, x269, x270, x271, x272, x273, x274, x275, x276, x277, x278, x279, x280, x281, x282, x283, x284, x285, x286, x287, x288, x289, x290, x291, x292, x293, x294, x295, x296, x297, x298, x299, x300, x301, x302, x303, x304, x305, x306, x307, x308, x309, x310, x311, x312, x313, x314, x315, x316, x317, x318, x319, x320, x321, x322, x323, x324, x325, x326, x327, x328, x329, x330], []⟩ W := by
  conv => arg 2; whnf
  obtain ⟨i0, hi0, hz0, hz1, hz2⟩ := info_parts info51
  obtain ⟨j0, hj0, hy0, hy1a, hy2a⟩ := info_parts info26
  have HX := hide hexit
  have HCF := hide hcf
  have HR8 := hide hr8
  have HR9 := hide hr9
  have HT9 := hide ht9
  have hl8 : ((rs'.map (encR wd)).map wv).length = rs'.length * 1 := by simp
  have hl9 : (rs'.flatMap rfv).length = rs'.length * 2 := rfv_len rs'
  have ho8 : ∀ u ∈ ((rs'.map (encR wd)).map wv), u.oneCell' = true := wv_one _
  have ho9 : ∀ u ∈ (rs'.flatMap rfv), u.oneCell' = true := rfv_one rs'
  have HL8 := hide hl8
  have HL9 := hide hl9
  have HO8 := hide ho8
  have HO9 := hide ho9
  have mx1 : 0 + rs'.length ≤ maxLen := by simp only [maxLen]; omega
  have mx2 : (0 + rs'.length) * 8 ≤ 140737488355328 := by omega
  have mx3 : (0 + rs'.length) * 16 ≤ 140737488355328 := by omega
  have n0 : Chg (fun _ => False) W W := Chg.refl _ W
  have N0 := hide n0.drew
  have N1 := hide (n0.alloc (.cells #[] 26)).drew
  have N4 := hide (n0.alloc (.cells #[] 51)).drew
  have N2 := hide ((n0.alloc (.cells #[] 26)).alloc (.cells #[] 51)).drew
  have N3 := hide ((n0.alloc (.cells #[] 51)).alloc (.cells #[] 26)).drew
  have mk : ∀ (w : World) (b e s : Nat), W.heap.size ≤ w.heap.size → b = w.heap.size → (w.alloc (.cells #[] e)).ownsRow W.heap.size e s (.slice (some ⟨b, 0, none⟩) 0 0) 0 [] := fun w b e s h1 h2 => by subst h2; exact World.ownsRow_made w #[] 0 h1 (Nat.zero_le _) (by simp)
  have sz1 : ∀ o, W.heap.size ≤ (W.alloc o).heap.size := fun o => by rw [size_alloc]; omega
  have sq : ∀ o, W.heap.size + 1 = (W.alloc o).heap.size := fun o => by rw [size_alloc]
  have X1 := hide (own_chg (mk W W.heap.size 26 1 (Nat.le_refl _) rfl) (Chg.refl (fun _ => False) _).drew (fun _ _ => id))
  have X2 := hide (own_chg (mk W W.heap.size 26 1 (Nat.le_refl _) rfl) ((Chg.refl (fun _ => False) _).alloc (.cells #[] 51)).drew (fun _ _ => id))
  have X3 := hide (own_chg (mk (W.alloc (.cells #[] 51)) (W.heap.size + 1) 26 1 (sz1 _) (sq _)) (Chg.refl (fun _ => False) _).drew (fun _ _ => id))
  have Y4 := hide (own_chg (mk W W.heap.size 51 2 (Nat.le_refl _) rfl) (Chg.refl (fun _ => False) _).drew (fun _ _ => id))
  have Y3 := hide (own_chg (mk W W.heap.size 51 2 (Nat.le_refl _) rfl) ((Chg.refl (fun _ => False) _).alloc (.cells #[] 26)).drew (fun _ _ => id))
  have Y2 := hide (own_chg (mk (W.alloc (.cells #[] 26)) (W.heap.size + 1) 51 2 (sz1 _) (sq _)) (Chg.refl (fun _ => False) _).drew (fun _ _ => id))
  have MK := hide mk
  have S1 := (unhide N1).size
  have S2 := (unhide N2).size
  have S3 := (unhide N3).size
  have S4 := (unhide N4).size
  clear n0 hexit hcf hr8 hr9 ht9 hl8 hl9 ho8 ho9 mk sz1 sq
  refine wp_region_noPanic ?_
  go_region_held3 (fun _ => True) (trivial)
    (first
    | (refine step_append_rd _ ?_ (.tmp 278) (.tmp 281) 46 ?_ W.heap.size 26 j0 (.int .u64 0) 1 8 Try.underlying46 hj0 hy0 hy1a hy2a ?_ (Nat.succ_pos 0) (.slice (some ⟨W.heap.size, 0, none⟩) 0 0) 0 [] ?_ (unhide X1) T8 Af8 rs'.length cf8 ((rs'.map (encR wd)).map wv) ?_ (unhide HL8) (((unhide HR8).chg (unhide N1) (fun _ _ _ => id))) (unhide HO8) mx1 mx2 (S1) ?_; any_goals (with_unfolding_all rfl)
       intro v3 w3 ho3 hc3 hat
       rw [Nat.zero_add, List.nil_append] at ho3
       obtain ⟨A3, c3, rfl⟩ := own_val ho3
       have hpc : Chg (fun _ => False) W w3 := (unhide N1).trans hc3 (fun k hk hs => by have h1 := (unhide X1).lt k hs; omega)
       have HP8 := hide ho3
       have HPC := hide hpc
       have HPCa := hide (hpc.alloc (.cells #[] 51))
       have HP8a := hide (ho3.alloc (.cells #[] 51))
       have hps := hpc.size
       have HPB : W.heap.size ≤ w3.heap.size := hps
       have HPBa : W.heap.size ≤ (w3.alloc (.cells #[] 51)).heap.size := by rw [size_alloc]; omega
       clear ho3 hc3 hat hpc)
    | (refine step_append_rd _ ?_ (.tmp 278) (.tmp 281) 46 ?_ W.heap.size 26 j0 (.int .u64 0) 1 8 Try.underlying46 hj0 hy0 hy1a hy2a ?_ (Nat.succ_pos 0) (.slice (some ⟨W.heap.size, 0, none⟩) 0 0) 0 [] ?_ (unhide X2) T8 Af8 rs'.length cf8 ((rs'.map (encR wd)).map wv) ?_ (unhide HL8) (((unhide HR8).chg (unhide N2) (fun _ _ _ => id))) (unhide HO8) mx1 mx2 (S2) ?_; any_goals (with_unfolding_all rfl)
       intro v3 w3 ho3 hc3 hat
       rw [Nat.zero_add, List.nil_append] at ho3
       obtain ⟨A3, c3, rfl⟩ := own_val ho3
       have hpc : Chg (fun _ => False) W w3 := (unhide N2).trans hc3 (fun k hk hs => by have h1 := (unhide X2).lt k hs; omega)
       have HP9 := hide (own_chg (unhide Y2) hc3 (fun k hk hs => own_own_ne (unhide X2) (unhide Y2) (by decide) k hs hk))
       have HP8 := hide ho3
       have HPC := hide hpc
       have HPCa := hide (hpc.alloc (.cells #[] 51))
       have HP8a := hide (ho3.alloc (.cells #[] 51))
       have hps := hpc.size
       have HPB : W.heap.size ≤ w3.heap.size := hps
       have HPBa : W.heap.size ≤ (w3.alloc (.cells #[] 51)).heap.size := by rw [size_alloc]; omega
       clear ho3 hc3 hat hpc)
    | (refine step_append_rd _ ?_ (.tmp 278) (.tmp 281) 46 ?_ W.heap.size 26 j0 (.int .u64 0) 1 8 Try.underlying46 hj0 hy0 hy1a hy2a ?_ (Nat.succ_pos 0) (.slice (some ⟨W.heap.size + 1, 0, none⟩) 0 0) 0 [] ?_ (unhide X3) T8 Af8 rs'.length cf8 ((rs'.map (encR wd)).map wv) ?_ (unhide HL8) (((unhide HR8).chg (unhide N3) (fun _ _ _ => id))) (unhide HO8) mx1 mx2 (S3) ?_; any_goals (with_unfolding_all rfl)
       intro v3 w3 ho3 hc3 hat
       rw [Nat.zero_add, List.nil_append] at ho3
       obtain ⟨A3, c3, rfl⟩ := own_val ho3
       have hpc : Chg (fun _ => False) W w3 := (unhide N3).trans hc3 (fun k hk hs => by have h1 := (unhide X3).lt k hs; omega)
       have HP9 := hide (own_chg (unhide Y3) hc3 (fun k hk hs => own_own_ne (unhide X3) (unhide Y3) (by decide) k hs hk))
       have HP8 := hide ho3
       have HPC := hide hpc
       have HPCa := hide (hpc.alloc (.cells #[] 51))
       have HP8a := hide (ho3.alloc (.cells #[] 51))
       have hps := hpc.size
       have HPB : W.heap.size ≤ w3.heap.size := hps
       have HPBa : W.heap.size ≤ (w3.alloc (.cells #[] 51)).heap.size := by rw [size_alloc]; omega
       clear ho3 hc3 hat hpc)
    | (refine step_append_rd _ ?_ (.tmp 278) (.tmp 281) 46 ?_ W.heap.size 26 j0 (.int .u64 0) 1 8 Try.underlying46 hj0 hy0 hy1a hy2a ?_ (Nat.succ_pos 0) (.slice (some ⟨w4.heap.size, 0, none⟩) 0 0) 0 [] ?_ (unhide HQX) T8 Af8 rs'.length cf8 ((rs'.map (encR wd)).map wv) ?_ (unhide HL8) (((unhide HR8).chg (unhide HQCa) (fun _ _ _ => id))) (unhide HO8) mx1 mx2 (HQBa) ?_; any_goals (with_unfolding_all rfl)
       intro v3 w3 ho3 hc3 hat
       rw [Nat.zero_add, List.nil_append] at ho3
       obtain ⟨A3, c3, rfl⟩ := own_val ho3
       have hpc : Chg (fun _ => False) W w3 := (unhide HQCa).trans hc3 (fun k hk hs => by have h1 := (unhide HQX).lt k hs; omega)
       have HP9 := hide (own_chg (unhide HQ9a) hc3 (fun k hk hs => own_own_ne (unhide HQX) (unhide HQ9a) (by decide) k hs hk))
       have HP8 := hide ho3
       have HPC := hide hpc
       have HPCa := hide (hpc.alloc (.cells #[] 51))
       have HP8a := hide (ho3.alloc (.cells #[] 51))
       have hps := hpc.size
       have HPB : W.heap.size ≤ w3.heap.size := hps
       have HPBa : W.heap.size ≤ (w3.alloc (.cells #[] 51)).heap.size := by rw [size_alloc]; omega
       clear ho3 hc3 hat hpc)
    | (refine step_append_rd _ ?_ (.tmp 278) (.tmp 281) 46 ?_ W.heap.size 26 j0 (.int .u64 0) 1 8 Try.underlying46 hj0 hy0 hy1a hy2a ?_ (Nat.succ_pos 0) (.slice (some ⟨W.heap.size, 0, none⟩) 0 0) 0 [] ?_ (unhide HQ8) T8 Af8 rs'.length cf8 ((rs'.map (encR wd)).map wv) ?_ (unhide HL8) (((unhide HR8).chg (unhide HQC) (fun _ _ _ => id))) (unhide HO8) mx1 mx2 (HQB) ?_; any_goals (with_unfolding_all rfl)
       intro v3 w3 ho3 hc3 hat
       rw [Nat.zero_add, List.nil_append] at ho3
       obtain ⟨A3, c3, rfl⟩ := own_val ho3
       have hpc : Chg (fun _ => False) W w3 := (unhide HQC).trans hc3 (fun k hk hs => by have h1 := (unhide HQ8).lt k hs; omega)
       have HP9 := hide (own_chg (unhide HQ9) hc3 (fun k hk hs => own_own_ne (unhide HQ8) (unhide HQ9) (by decide) k hs hk))
       have HP8 := hide ho3
       have HPC := hide hpc
       have HPCa := hide (hpc.alloc (.cells #[] 51))
       have HP8a := hide (ho3.alloc (.cells #[] 51))
       have hps := hpc.size
       have HPB : W.heap.size ≤ w3.heap.size := hps
       have HPBa : W.heap.size ≤ (w3.alloc (.cells #[] 51)).heap.size := by rw [size_alloc]; omega
       clear ho3 hc3 hat hpc)
    | (refine step_append_rd _ ?_ (.tmp 278) (.tmp 281) 46 ?_ W.heap.size 26 j0 (.int .u64 0) 1 8 Try.underlying46 hj0 hy0 hy1a hy2a ?_ (Nat.succ_pos 0) (.slice (some ⟨W.heap.size + 1, 0, none⟩) 0 0) 0 [] ?_ (unhide HQ8) T8 Af8 rs'.length cf8 ((rs'.map (encR wd)).map wv) ?_ (unhide HL8) (((unhide HR8).chg (unhide HQC) (fun _ _ _ => id))) (unhide HO8) mx1 mx2 (HQB) ?_; any_goals (with_unfolding_all rfl)
       intro v3 w3 ho3 hc3 hat
       rw [Nat.zero_add, List.nil_append] at ho3
       obtain ⟨A3, c3, rfl⟩ := own_val ho3
       have hpc : Chg (fun _ => False) W w3 := (unhide HQC).trans hc3 (fun k hk hs => by have h1 := (unhide HQ8).lt k hs; omega)
       have HP9 := hide (own_chg (unhide HQ9) hc3 (fun k hk hs => own_own_ne (unhide HQ8) (unhide HQ9) (by decide) k hs hk))
       have HP8 := hide ho3
       have HPC := hide hpc
       have HPCa := hide (hpc.alloc (.cells #[] 51))
       have HP8a := hide (ho3.alloc (.cells #[] 51))
       have hps := hpc.size
       have HPB : W.heap.size ≤ w3.heap.size := hps
       have HPBa : W.heap.size ≤ (w3.alloc (.cells #[] 51)).heap.size := by rw [size_alloc]; omega
       clear ho3 hc3 hat hpc)
    | (refine step_append_rd _ ?_ (.tmp 284) (.tmp 287) 33 ?_ W.heap.size 51 i0 (.agg #[.bool false, .int .i64 0]) 2 16 Try.underlying33 hi0 hz0 hz1 hz2 ?_ (Nat.succ_pos 1) (.slice (some ⟨W.heap.size, 0, none⟩) 0 0) 0 [] ?_ (unhide Y4) T9 Af9 rs'.length cf9 (rs'.flatMap rfv) ?_ (unhide HL9) (((unhide HR9).chg (unhide N4) (fun _ _ _ => id))) (unhide HO9) mx1 mx3 (S4) ?_; any_goals (with_unfolding_all rfl)
       intro v4 w4 ho4 hc4 hat4
       rw [Nat.zero_add, List.nil_append] at ho4
       have hpc : Chg (fun _ => False) W w4 := (unhide N4).trans hc4 (fun k hk hs => by have h1 := (unhide Y4).lt k hs; omega)
       have HQ9 := hide ho4
       have HQC := hide hpc
       have HQX := hide (own_chg (unhide MK w4 w4.heap.size 26 1 hpc.size rfl) (Chg.refl (fun _ => False) _) (fun _ _ => id))
       have HQ9a := hide (ho4.alloc (.cells #[] 26))
       have HQCa := hide (hpc.alloc (.cells #[] 26))
       have HQB : W.heap.size ≤ w4.heap.size := hpc.size
       have HQBa : W.heap.size ≤ (w4.alloc (.cells #[] 26)).heap.size := by rw [size_alloc]; omega
       clear ho4 hc4 hat4 hpc)
    | (refine step_append_rd _ ?_ (.tmp 284) (.tmp 287) 33 ?_ W.heap.size 51 i0 (.agg #[.bool false, .int .i64 0]) 2 16 Try.underlying33 hi0 hz0 hz1 hz2 ?_ (Nat.succ_pos 1) (.slice (some ⟨W.heap.size + 1, 0, none⟩) 0 0) 0 [] ?_ (unhide Y2) T9 Af9 rs'.length cf9 (rs'.flatMap rfv) ?_ (unhide HL9) (((unhide HR9).chg (unhide N2) (fun _ _ _ => id))) (unhide HO9) mx1 mx3 (S2) ?_; any_goals (with_unfolding_all rfl)
       intro v4 w4 ho4 hc4 hat4
       rw [Nat.zero_add, List.nil_append] at ho4
       have hpc : Chg (fun _ => False) W w4 := (unhide N2).trans hc4 (fun k hk hs => by have h1 := (unhide Y2).lt k hs; omega)
       have HQ8 := hide (own_chg (unhide X2) hc4 (fun k hk hs => own_own_ne (unhide X2) (unhide Y2) (by decide) k hk hs))
       have HQ9 := hide ho4
       have HQC := hide hpc
       have HQX := hide (own_chg (unhide MK w4 w4.heap.size 26 1 hpc.size rfl) (Chg.refl (fun _ => False) _) (fun _ _ => id))
       have HQ9a := hide (ho4.alloc (.cells #[] 26))
       have HQCa := hide (hpc.alloc (.cells #[] 26))
       have HQB : W.heap.size ≤ w4.heap.size := hpc.size
       have HQBa : W.heap.size ≤ (w4.alloc (.cells #[] 26)).heap.size := by rw [size_alloc]; omega
       clear ho4 hc4 hat4 hpc)
    | (refine step_append_rd _ ?_ (.tmp 284) (.tmp 287) 33 ?_ W.heap.size 51 i0 (.agg #[.bool false, .int .i64 0]) 2 16 Try.underlying33 hi0 hz0 hz1 hz2 ?_ (Nat.succ_pos 1) (.slice (some ⟨W.heap.size, 0, none⟩) 0 0) 0 [] ?_ (unhide Y3) T9 Af9 rs'.length cf9 (rs'.flatMap rfv) ?_ (unhide HL9) (((unhide HR9).chg (unhide N3) (fun _ _ _ => id))) (unhide HO9) mx1 mx3 (S3) ?_; any_goals (with_unfolding_all rfl)
       intro v4 w4 ho4 hc4 hat4
       rw [Nat.zero_add, List.nil_append] at ho4
       have hpc : Chg (fun _ => False) W w4 := (unhide N3).trans hc4 (fun k hk hs => by have h1 := (unhide Y3).lt k hs; omega)
       have HQ8 := hide (own_chg (unhide X3) hc4 (fun k hk hs => own_own_ne (unhide X3) (unhide Y3) (by decide) k hk hs))
       have HQ9 := hide ho4
       have HQC := hide hpc
       have HQX := hide (own_chg (unhide MK w4 w4.heap.size 26 1 hpc.size rfl) (Chg.refl (fun _ => False) _) (fun _ _ => id))
       have HQ9a := hide (ho4.alloc (.cells #[] 26))
       have HQCa := hide (hpc.alloc (.cells #[] 26))
       have HQB : W.heap.size ≤ w4.heap.size := hpc.size
       have HQBa : W.heap.size ≤ (w4.alloc (.cells #[] 26)).heap.size := by rw [size_alloc]; omega
       clear ho4 hc4 hat4 hpc)
    | (refine step_append_rd _ ?_ (.tmp 284) (.tmp 287) 33 ?_ W.heap.size 51 i0 (.agg #[.bool false, .int .i64 0]) 2 16 Try.underlying33 hi0 hz0 hz1 hz2 ?_ (Nat.succ_pos 1) (.slice (some ⟨w3.heap.size, 0, none⟩) 0 0) 0 [] ?_ (unhide MK w3 w3.heap.size 51 2 HPB rfl) T9 Af9 rs'.length cf9 (rs'.flatMap rfv) ?_ (unhide HL9) (((unhide HR9).chg (unhide HPCa) (fun _ _ _ => id))) (unhide HO9) mx1 mx3 (HPBa) ?_; any_goals (with_unfolding_all rfl)
       intro v4 w4 ho4 hc4 hat4
       rw [Nat.zero_add, List.nil_append] at ho4
       have hpc : Chg (fun _ => False) W w4 := (unhide HPCa).trans hc4 (fun k hk hs => by have h1 := (unhide MK w3 w3.heap.size 51 2 HPB rfl).lt k hs; omega)
       have HQ8 := hide (own_chg (unhide HP8a) hc4 (fun k hk hs => own_own_ne (unhide HP8a) (unhide MK w3 w3.heap.size 51 2 HPB rfl) (by decide) k hk hs))
       have HQ9 := hide ho4
       have HQC := hide hpc
       have HQX := hide (own_chg (unhide MK w4 w4.heap.size 26 1 hpc.size rfl) (Chg.refl (fun _ => False) _) (fun _ _ => id))
       have HQ9a := hide (ho4.alloc (.cells #[] 26))
       have HQCa := hide (hpc.alloc (.cells #[] 26))
       have HQB : W.heap.size ≤ w4.heap.size := hpc.size
       have HQBa : W.heap.size ≤ (w4.alloc (.cells #[] 26)).heap.size := by rw [size_alloc]; omega
       clear ho4 hc4 hat4 hpc)
    | (refine step_append_rd _ ?_ (.tmp 284) (.tmp 287) 33 ?_ W.heap.size 51 i0 (.agg #[.bool false, .int .i64 0]) 2 16 Try.underlying33 hi0 hz0 hz1 hz2 ?_ (Nat.succ_pos 1) (.slice (some ⟨W.heap.size + 1, 0, none⟩) 0 0) 0 [] ?_ (unhide HP9) T9 Af9 rs'.length cf9 (rs'.flatMap rfv) ?_ (unhide HL9) (((unhide HR9).chg (unhide HPC) (fun _ _ _ => id))) (unhide HO9) mx1 mx3 (HPB) ?_; any_goals (with_unfolding_all rfl)
       intro v4 w4 ho4 hc4 hat4
       rw [Nat.zero_add, List.nil_append] at ho4
       have hpc : Chg (fun _ => False) W w4 := (unhide HPC).trans hc4 (fun k hk hs => by have h1 := (unhide HP9).lt k hs; omega)
       have HQ8 := hide (own_chg (unhide HP8) hc4 (fun k hk hs => own_own_ne (unhide HP8) (unhide HP9) (by decide) k hk hs))
       have HQ9 := hide ho4
       have HQC := hide hpc
       have HQX := hide (own_chg (unhide MK w4 w4.heap.size 26 1 hpc.size rfl) (Chg.refl (fun _ => False) _) (fun _ _ => id))
       have HQ9a := hide (ho4.alloc (.cells #[] 26))
       have HQCa := hide (hpc.alloc (.cells #[] 26))
       have HQB : W.heap.size ≤ w4.heap.size := hpc.size
       have HQBa : W.heap.size ≤ (w4.alloc (.cells #[] 26)).heap.size := by rw [size_alloc]; omega
       clear ho4 hc4 hat4 hpc)
    | (refine step_append_rd _ ?_ (.tmp 284) (.tmp 287) 33 ?_ W.heap.size 51 i0 (.agg #[.bool false, .int .i64 0]) 2 16 Try.underlying33 hi0 hz0 hz1 hz2 ?_ (Nat.succ_pos 1) (.slice (some ⟨W.heap.size, 0, none⟩) 0 0) 0 [] ?_ (unhide HP9) T9 Af9 rs'.length cf9 (rs'.flatMap rfv) ?_ (unhide HL9) (((unhide HR9).chg (unhide HPC) (fun _ _ _ => id))) (unhide HO9) mx1 mx3 (HPB) ?_; any_goals (with_unfolding_all rfl)
       intro v4 w4 ho4 hc4 hat4
       rw [Nat.zero_add, List.nil_append] at ho4
       have hpc : Chg (fun _ => False) W w4 := (unhide HPC).trans hc4 (fun k hk hs => by have h1 := (unhide HP9).lt k hs; omega)
       have HQ8 := hide (own_chg (unhide HP8) hc4 (fun k hk hs => own_own_ne (unhide HP8) (unhide HP9) (by decide) k hk hs))
       have HQ9 := hide ho4
       have HQC := hide hpc
       have HQX := hide (own_chg (unhide MK w4 w4.heap.size 26 1 hpc.size rfl) (Chg.refl (fun _ => False) _) (fun _ _ => id))
       have HQ9a := hide (ho4.alloc (.cells #[] 26))
       have HQCa := hide (hpc.alloc (.cells #[] 26))
       have HQB : W.heap.size ≤ w4.heap.size := hpc.size
       have HQBa : W.heap.size ≤ (w4.alloc (.cells #[] 26)).heap.size := by rw [size_alloc]; omega
       clear ho4 hc4 hat4 hpc)
    | (refine step_append_rd _ ?_ (.tmp 284) (.tmp 287) 33 ?_ W.heap.size 51 i0 (.agg #[.bool false, .int .i64 0]) 2 16 Try.underlying33 hi0 hz0 hz1 hz2 ?_ (Nat.succ_pos 1) (.slice (some ⟨w5.heap.size, 0, none⟩) 0 0) 0 [] ?_ (unhide HCY) T9 Af9 rs'.length cf9 (rs'.flatMap rfv) ?_ (unhide HL9) ((((unhide HR9).chg (unhide HCR).chg (fun b hb hl hs => by have h1 := unhide HT9 b hb; omega)).chg (((Chg.refl (fun _ => False) w5).alloc (.cells #[] 51))) (fun _ _ _ => id))) (unhide HO9) mx1 mx3 (HCBa) ?_; any_goals (with_unfolding_all rfl)
       intro v4 w4 ho4 hc4 hat4
       rw [Nat.zero_add, List.nil_append] at ho4
       have HZ := hide ((unhide HCR).more (((Chg.refl (fun _ => False) w5).alloc (.cells #[] 51))) (unhide HCY) hc4 ho4)
       clear ho4 hc4 hat4)
    | (refine step_append_rd _ ?_ (.tmp 284) (.tmp 287) 33 ?_ W.heap.size 51 i0 (.agg #[.bool false, .int .i64 0]) 2 16 Try.underlying33 hi0 hz0 hz1 hz2 ?_ (Nat.succ_pos 1) (.slice (some ⟨W.heap.size, 0, none⟩) 0 0) 0 [] ?_ (unhide HC9) T9 Af9 rs'.length cf9 (rs'.flatMap rfv) ?_ (unhide HL9) ((((unhide HR9).chg (unhide HCR).chg (fun b hb hl hs => by have h1 := unhide HT9 b hb; omega)).chg ((Chg.refl (fun _ => False) w5)) (fun _ _ _ => id))) (unhide HO9) mx1 mx3 (HCB) ?_; any_goals (with_unfolding_all rfl)
       intro v4 w4 ho4 hc4 hat4
       rw [Nat.zero_add, List.nil_append] at ho4
       have HZ := hide ((unhide HCR).more ((Chg.refl (fun _ => False) w5)) (unhide HC9) hc4 ho4)
       clear ho4 hc4 hat4)
    | (refine step_append_rd _ ?_ (.tmp 284) (.tmp 287) 33 ?_ W.heap.size 51 i0 (.agg #[.bool false, .int .i64 0]) 2 16 Try.underlying33 hi0 hz0 hz1 hz2 ?_ (Nat.succ_pos 1) (.slice (some ⟨W.heap.size + 1, 0, none⟩) 0 0) 0 [] ?_ (unhide HC9) T9 Af9 rs'.length cf9 (rs'.flatMap rfv) ?_ (unhide HL9) ((((unhide HR9).chg (unhide HCR).chg (fun b hb hl hs => by have h1 := unhide HT9 b hb; omega)).chg ((Chg.refl (fun _ => False) w5)) (fun _ _ _ => id))) (unhide HO9) mx1 mx3 (HCB) ?_; any_goals (with_unfolding_all rfl)
       intro v4 w4 ho4 hc4 hat4
       rw [Nat.zero_add, List.nil_append] at ho4
       have HZ := hide ((unhide HCR).more ((Chg.refl (fun _ => False) w5)) (unhide HC9) hc4 ho4)
       clear ho4 hc4 hat4)
    | (refine step_append_rd _ ?_ (.tmp 284) (.tmp 287) 33 ?_ W.heap.size 51 i0 (.agg #[.bool false, .int .i64 0]) 2 16 Try.underlying33 hi0 hz0 hz1 hz2 ?_ (Nat.succ_pos 1) (.slice (some ⟨w3.heap.size, 0, none⟩) 0 0) 0 [] ?_ (unhide HC9) T9 Af9 rs'.length cf9 (rs'.flatMap rfv) ?_ (unhide HL9) ((((unhide HR9).chg (unhide HCR).chg (fun b hb hl hs => by have h1 := unhide HT9 b hb; omega)).chg ((Chg.refl (fun _ => False) w5)) (fun _ _ _ => id))) (unhide HO9) mx1 mx3 (HCB) ?_; any_goals (with_unfolding_all rfl)
       intro v4 w4 ho4 hc4 hat4
       rw [Nat.zero_add, List.nil_append] at ho4
       have HZ := hide ((unhide HCR).more ((Chg.refl (fun _ => False) w5)) (unhide HC9) hc4 ho4)
       clear ho4 hc4 hat4)
    | (go_at_call 21
       (with_reducible refine (unhide HCF _ _ _ (unhide HQC) (unhide HQ8)).mono ?_)
       rintro e w5 ⟨M', d, ob, rfl, hcr, hcc⟩
       have HCR := hide hcr
       have hcs := hcr.chg.size
       have HC9 := hide (own_chg (unhide HQ9) hcc (fun k hk hs => by have h1 := (unhide HQ9).lt k hk; omega))
       have HCY := hide (own_chg (unhide MK w5 w5.heap.size 51 2 hcs rfl) (Chg.refl (fun _ => False) _) (fun _ _ => id))
       have HCB : W.heap.size ≤ w5.heap.size := hcs
       have HCBa : W.heap.size ≤ (w5.alloc (.cells #[] 51)).heap.size := by rw [size_alloc]; omega
       clear hcr hcc)
    | (go_at_call 21
       (with_reducible refine (unhide HCF _ _ _ (unhide HPCa) (unhide HP8a)).mono ?_)
       rintro e w5 ⟨M', d, ob, rfl, hcr, hcc⟩
       have HCR := hide hcr
       have hcs := hcr.chg.size
       have HC9 := hide (own_chg (unhide MK w3 w3.heap.size 51 2 HPB rfl) hcc (fun k hk hs => by have h1 := (unhide MK w3 w3.heap.size 51 2 HPB rfl).lt k hk; omega))
       have HCY := hide (own_chg (unhide MK w5 w5.heap.size 51 2 hcs rfl) (Chg.refl (fun _ => False) _) (fun _ _ => id))
       have HCB : W.heap.size ≤ w5.heap.size := hcs
       have HCBa : W.heap.size ≤ (w5.alloc (.cells #[] 51)).heap.size := by rw [size_alloc]; omega
       clear hcr hcc)
    | (go_at_call 21
       (with_reducible refine (unhide HCF _ _ _ (unhide HPC) (unhide HP8)).mono ?_)
       rintro e w5 ⟨M', d, ob, rfl, hcr, hcc⟩
       have HCR := hide hcr
       have hcs := hcr.chg.size
       have HC9 := hide (own_chg (unhide HP9) hcc (fun k hk hs => by have h1 := (unhide HP9).lt k hk; omega))
       have HCY := hide (own_chg (unhide MK w5 w5.heap.size 51 2 hcs rfl) (Chg.refl (fun _ => False) _) (fun _ _ => id))
       have HCB : W.heap.size ≤ w5.heap.size := hcs
       have HCBa : W.heap.size ≤ (w5.alloc (.cells #[] 51)).heap.size := by rw [size_alloc]; omega
       clear hcr hcc)
    | (go_at_call 21
       (with_reducible refine (unhide HCF _ _ _ (unhide HPC) (unhide HP8)).mono ?_)
       rintro e w5 ⟨M', d, ob, rfl, hcr, hcc⟩
       have HCR := hide hcr
       have hcs := hcr.chg.size
       have HCY := hide (own_chg (unhide MK w5 w5.heap.size 51 2 hcs rfl) (Chg.refl (fun _ => False) _) (fun _ _ => id))
       have HCB : W.heap.size ≤ w5.heap.size := hcs
       have HCBa : W.heap.size ≤ (w5.alloc (.cells #[] 51)).heap.size := by rw [size_alloc]; omega
       clear hcr hcc))
  all_goals
    refine NoPanic.normal ?_
    try dsimp only
    first
    | exact unhide HX _ _ _ _ _ _ _ _ _ _ _ _ _ _ _ (unhide HZ)
    | exact unhide HX _ _ _ _ _ _ _ _ _ _ _ _ _ _ _ ((unhide HCR).same (unhide HC9))
end Go.Proofs.Ytlgkgglecgdkgaa
