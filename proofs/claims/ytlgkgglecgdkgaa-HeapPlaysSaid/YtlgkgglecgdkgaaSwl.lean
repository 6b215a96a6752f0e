/-
  Case 3 of HeapPlays: a collection.
-/
import Derived.Test.YtlgkgglecgdkgaaSwk
namespace Go.Proofs.Ytlgkgglecgdkgaa
open Go.RowKit
set_option maxHeartbeats 4000000
set_option maxRecDepth 1000000
noncomputable def reg50C : Code := (Try.f4.body.bind (findReg 50)).getD .skip
theorem reg50 (x0 x1 x2 x3 x4 x5 x6 x7 x9 x10 x12 x13 x14 x15 x16 x17 x18 x19 x20 x21 x22 x23 x24 x25 x26 x27 x28 x29 x30 x31 x32 x33 x34 x35 x36 x37 x38 x39 x40 x41 x42 x43 x44 x45 x46 x47 x48 x49 x50 x51 x52 x53 x54 x55 x56 x57 x58 x59 x60 x61 x62 x63 x64 x65 x66 x67 x68 x69 x70 x71 x72 x73 x74 x75 x76 x77 x78 x79 x80 x81 x82 x83 x84 x85 x86 x87 x88 x89 x90 x91 x92 x93 x94 x95 x96 x97 x98 x99 x100 x101 x102 x103 x104 x105 x106 x107 x108 x109 x110 x111 x112 x113 x114 x115 x116 x117 x118 x119 x120 x121 x122 x123 x124 x125 x126 x127 x128 x129 x130 x131 x132 x133 x134 x135 x136 x137 x138 x139 x140 x141 x142 x143 x144 x145 x146 x147 x148 x149 x150 x151 x152 x153 x154 x155 x156 x157 x158 x159 x160 x161 x162 x163 x164 x165 x166 x167 x168 x169 x170 x171 x172 x173 x174 x175 x176 x177 x178 x179 x180 x181 x182 x183 x184 x185 x186 x187 x188 x189 x190 x191 x192 x193 x194 x195 x196 x197 x198 x199 x200 x201 x202 x203 x204 x205 x206 x207 x208 x209 x210 x211 x212 x213 x214 x215 x216 x217 x218 x219 x220 x221 x222 x223 x224 x225 x226 x227 x228 x229 x230 x231 x232 x233 x234 x235 x236 x237 x238 x239 x240 x241 x242 x243 x244 x245 x246 x247 x248 x249 x250 x251 x252 x253 x254 x255 x256 x257 x258 x259 x260 x261 x262 x263 x264 x265 x266 x267 x268 x269 x270 x271 x272 x273 x274 x275 x276 x277 x278 x279 x280 x281 x282 x283 x284 x285 x286 x287 x288 x289 x290 x291 x292 x293 x294 x295 x296 x297 x298 x299 x300 x301 x302 x303 x304 x305 x306 x307 x308 x309 x310 x311 x312 x313 x314 x315 x316 x317 x318 x319 x320 x321 x322 x323 x324 x325 x326 x327 x328 x329 x330 : Value) (W : World) (ab pc n c8 : Nat) (A8 pA : Option Addr) (a : ActM) (hn : n ≤ 1000) (hab : Blk W ab 49 #[.int .i64 a.k, .int .i64 a.kind, .int .i64 a.tag, .slice pA a.parts.length pc, .string a.text, .int .i64 a.at_, .int .i64 a.by_, .int .i64 a.keep])
    (Q : Exit → Act → World → Prop) (hexit : ∀ (f : Nat) (y268 y269 y270 y271 y272 y273 y274 y275 y276 : Value), f ≤ n → Q .normal ⟨#[x0, x1, x2, x3, x4, x5, x6, x7, .slice A8 n c8, x9, x10, .pointer (some ⟨ab, 0, none⟩), x12, x13, x14, x15, x16, x17, x18, x19, x20, x21, x22, x23, x24, x25, x26, x27, x28, x29, x30, x31, x32, .int .i64 (f : Int), x34, x35, x36, x37, x38, x39, x40, x41, x42, x43, x44, x45, x46, x47, x48, x49, x50, x51, x52, x53, x54, x55, x56, x57, x58, x59, x60, x61, x62, x63, x64, x65, x66, x67, x68, x69, x70, x71, x72, x73, x74, x75, x76, x77, x78, x79, x80, x81, x82, x83, x84, x85, x86, x87, x88, x89, x90, x91, x92, x93, x94, x95, x96, x97, x98, x99, x100, x101, x102, x103, x104, x105, x106, x107, x108, x109, x110, x111, x112, x113, x114, x115, x116, x117, x118, x119, x120, x121, x122, x123, x124, x125, x126, x127, x128, x129, x130, x131, x132, x133, x134, x135, x136, x137, x138, x139, x140, x141, x142, x143, x144, x145, x146, x147, x148, x149, x150, x151, x152, x153, x154, x155, x156, x157, x158, x159, x160, x161, x162, x163, x164, x165, x166, x167, x168, x169, x170, x171, x172, x173, x174, x175, x176, x177, x178, x179, x180, x181, x182, x183, x184, x185, x186, x187, x188, x189, x190, x191, x192, x193, x194, x195, x196, x197, x198, x199, x200, x201, x202, x203, x204, x205, x206, x207, x208, x209, x210, x211, x212, x213, x214, x215, x216, x217, x218, x219, x220, x221, x222, x223, x224, x225, x226, x227, x228, x229, x230, x231, x232, x233, x234, x235, x236, x237, x238, x239, x240, x241, x242, x243, x244, x245, x246, x247, x248, x249, x250, x251, x252, x253, x254, x255, x256, x257, x258, x259, x260, x261, x262, x263, x264, x265, x266, x267, y268, y269, y270, y271, y272, y273, y274, y275, y276, x277, x278, x279, x280, x281, x282, x283, x284, x285, x286, x287, x288, x289, x290, x291, x292, x293, x294, x295, x296, x297, x298, x299, x300, x301, x302, x303, x304, x305, x306, x307, x308, x309, x310, x311, x312, x313, x314, x315, x316, x317, x318, x319, x320, x321, x322, x323, x324, x325, x326, x327, x328, x329, x330], []⟩ W) :
    Code.wp Try.prog reg50C Q ⟨#[x0, x1, x2, x3, x4, x5, x6, x7, .slice A8 n c8, x9, x10, .pointer (some ⟨ab, 0, none⟩), x12, x13, x14, x15, x16, x17, x18, x19, x20, x21, x22, x23, x24, x25, x26, x27, x28, x29, x30, x31, x32, x33, x34, x35, x36, x37, x38, x39, x40, x41, x42, x43, x44, x45, x46, x47, x48, x49, x50, x51, x52, x53, x54, x55, x56, x57, x58, x59, x60, x61, x62, x63, x64, x65, x66, x67, x68, x69, x70, x71, x72, x73, x74, x75, x76, x77, x78, x79, x80, x81, x82, x83, x84, x85, x86, x87, x88, x89, x90, x91, x92, x93, x94, x95, x96, x97, x98, x99, x100, x101, x102, x103, x104, x105, x106, x107, x108, x109, x110, x111, x112, x113, x114, x115, x116, x117, x118, x119, x120, x121, x122, x123, x124, x125, x126, x127, x128, x129, x130, x131, x132, x133, x134, x135, x136, x137, x138, x139, x140, x141, x142, x143, x144, x145, x146, x147, x148, x149, x150, x151, x152, x153, x154, x155, x156, x157, x158, x159, x160, x161, x162, x163, x164, x165, x166, x167, x168, x169, x170, x171, x172, x173, x174, x175, x176, x177, x178, x179, x180, x181, x182, x183, x184, x185, x186, x187, x188, x189, x190, x191, x192, x193, x194, x195, x196, x197, x198, x199, x200, x201, x202, x203, x204, x205, x206, x207, x208, x209, x210, x211, x212, x213, x214, x215, x216, x217, x218, x219, x220, x221, x222, x223, x224, x225, x226, x227, x228, x229, x230, x231, x232, x233, x234, x235, x236, x237, x238, x239, x240, x241, x242, x243, x244, x245, x246, x247, x248, x249, x250, x251, x252, x253, x254, x255, x256, x257, x258, x259, x260, x261, x262, x263, x264, x265, x266, x267, x268, x269, x270, x271, x272, x273, x274, x275, x276, x277, x278, x279, x280, x281, x282, x283, x284, x285, x286, x287, x288, x289, x290, x291, x292, x293, x294, x295, x296, x297, x298, x299, x300, x301, x302, x303, x304, x305, x306, x307, x308, x309, x310, x311, x312, x313, x314, x315, x316, x317, x318, x319, x320, x321, x322, x323, x324, x325, x326, x327, x328, x329, x330], []⟩ W := by
  have c7 := hab.cell 7
  simp only [List.getElem?_toArray, List.getElem?_cons_zero, List.getElem?_cons_succ] at c7
  clear hab
  generalize a.keep = q at *
  have HX := hide hexit
  clear hexit
  by_cases h0 : q < 0
  · conv => arg 2; whnf
    go_wp2_with fail
    first
    | exact unhide HX n _ _ _ _ _ _ _ _ _ (Nat.le_refl _)
    | (rw [Int.sub_zero]; exact unhide HX n _ _ _ _ _ _ _ _ _ (Nat.le_refl _))
  · by_cases h1 : (n : Int) < q
    · conv => arg 2; whnf
      go_wp2_with fail
      exact unhide HX 0 _ _ _ _ _ _ _ _ _ (Nat.zero_le _)
    · obtain ⟨q, rfl⟩ := Int.eq_ofNat_of_zero_le (show 0 ≤ q by omega)
      have hq : q ≤ n := by omega
      have e : (n : Int) - (q : Int) = ((n - q : Nat) : Int) := by omega
      have HE := hide e
      clear e
      conv => arg 2; whnf
      go_wp2_with fail
      rw [unhide HE]
      exact unhide HX (n - q) _ _ _ _ _ _ _ _ _ (Nat.sub_le _ _)
theorem size26 (W : World) : (sizeOf (Try.prog.elem 46)).run Try.prog W = .ok 1 W := by kernel_rfl
theorem size51 (W : World) : (sizeOf (Try.prog.elem 33)).run Try.prog W = .ok 2 W := by kernel_rfl
theorem rd_slice {T : Nat → Prop} {w : World} {A : Option Addr} {c k : Nat} {xs : List Value} (h : Rd T w A xs) (hc : xs.drop k ≠ [] → c ≠ 0) : Rd T w (if c = 0 then A else A.map (·.add k)) (xs.drop k) := by
  intro hx
  obtain ⟨ad, rfl, ht, hh⟩ := h (by rintro rfl; simp at hx)
  rw [if_neg (hc hx)]
  refine ⟨_, rfl, by rw [block_of_add]; exact ht, fun j u hu => ?_⟩
  rw [add_of_add]
  rw [List.getElem?_drop] at hu
  exact hh _ _ hu
theorem own_chg_base {w : World} {base base' : Nat} {e : TypeId} {size n : Nat} {v : Value} {xs : List Value} (h : w.ownsRow base e size v n xs) (hb : base' ≤ base) : w.ownsRow base' e size v n xs := by
  obtain ⟨h1, h2⟩ := h
  refine ⟨h1, ?_⟩
  rcases h2 with h2 | ⟨g, cap, cur, hv, hg, r⟩
  · exact Or.inl h2
  · exact Or.inr ⟨g, cap, cur, hv, Nat.le_trans hb hg, r⟩
theorem own_cap {w : World} {base : Nat} {e : TypeId} {size n : Nat} {A : Option Addr} {c : Nat} {xs : List Value} (h : w.ownsRow base e size (.slice A n c) n xs) : n ≤ c := by
  rcases h.2 with ⟨h1, h2⟩ | ⟨g, cap, cur, h1, h2, h3, h4, _⟩
  · injection h1 with _ h3 h4
    omega
  · injection h1 with _ _ h5
    omega
theorem rfv_drop (l : List Rf) : ∀ k, (l.flatMap rfv).drop (k * 2) = (l.drop k).flatMap rfv := by
  induction l with
  | nil => intro k; simp
  | cons x l ih =>
    intro k
    cases k with
    | zero => rfl
    | succ k =>
      rw [List.flatMap_cons, show (k + 1) * 2 = k * 2 + 2 by omega]
      simp only [rfv, List.drop_succ_cons, List.cons_append, List.nil_append]
      exact ih k
theorem slice_from (t e s : Nat) (ht : Try.prog.underlying t = some (.slice (Try.prog.elem t))) (hs : ∀ W, (sizeOf (Try.prog.elem t)).run Try.prog W = .ok s W) (A : Option Addr) (n c f : Nat) (hf : f ≤ n) (T : Nat → Prop) (w : World) (xs : List Value) (hr : Rd T w A xs) (hx : xs.length = n * s) (hc : n ≤ c) :
    ∃ Af cf, (∀ W', (Instr.slice t (.slice A n c) (some (.int .i64 (f : Int))) none none).run Try.prog W' = .ok (.slice Af (n - f) cf) W') ∧ Rd T w Af (xs.drop (f * s)) := by
  refine ⟨if c - f = 0 then A else A.map (·.add (f * s)), c - f, fun W' => ?_, rd_slice hr (fun h => ?_)⟩
  · rw [run_slice_l (w := W') t A n c ht .i64 (f : Int) (by omega) (by omega), hs]
    have hcf : (c = f) = (c - f = 0) := by apply propext; omega
    simp only [Result.andThen, sliced, Int.toNat_natCast, hcf]
  · intro h0
    apply h
    rw [List.drop_eq_nil_iff, hx]
    obtain rfl : f = n := by omega
    exact Nat.le_refl _
theorem sw_three (x0 x1 x2 x3 x4 x6 x10 x12 x13 x14 x15 x16 x17 x18 x19 x20 x21 x22 x23 x24 x25 x26 x27 x28 x29 x30 x31 x32 x33 x34 x35 x36 x37 x38 x39 x40 x41 x42 x43 x44 x45 x46 x47 x48 x49 x50 x51 x52 x53 x54 x55 x56 x57 x58 x59 x60 x61 x62 x63 x64 x65 x66 x67 x68 x69 x70 x71 x72 x73 x74 x75 x76 x77 x78 x79 x80 x81 x82 x83 x85 x86 x87 x88 x89 x90 x91 x92 x93 x94 x95 x96 x97 x98 x99 x100 x101 x102 x103 x104 x105 x106 x107 x108 x109 x110 x111 x112 x113 x114 x115 x116 x117 x118 x119 x120 x121 x122 x123 x124 x125 x126 x127 x128 x129 x130 x131 x132 x133 x134 x135 x136 x137 x138 x139 x140 x141 x142 x143 x144 x145 x146 x147 x148 x149 x150 x151 x152 x153 x154 x155 x156 x157 x158 x159 x160 x161 x162 x163 x164 x165 x166 x167 x168 x169 x170 x171 x172 x173 x174 x175 x176 x177 x178 x179 x180 x181 x182 x183 x184 x185 x186 x187 x188 x189 x190 x191 x192 x193 x194 x195 x196 x197 x198 x199 x200 x201 x202 x203 x204 x205 x206 x207 x208 x209 x210 x211 x212 x213 x214 x215 x216 x217 x218 x219 x220 x221 x222 x223 x224 x225 x226 x227 x228 x229 x230 x231 x232 x233 x234 x235 x236 x237 x238 x239 x240 x241 x242 x243 x244 x245 x246 x247 x248 x249 x250 x251 x252 x253 x254 x255 x256 x257 x258 x259 x260 x261 x262 x263 x264 x265 x266 x267 x268 x269 x270 x271 x272 x273 x274 x275 x276 x277 x278 x279 x280 x281 x282 x283 x284 x285 x286 x287 x288 x289 x290 x291 x292 x293 x294 x295 x296 x297 x298 x299 x300 x301 x302 x303 x304 x305 x306 x307 x308 x309 x310 x311 x312 x313 x314 x315 x316 x317 x318 x319 x320 x321 x322 x323 x324 x325 x326 x327 x328 x329 x330 v8 v9 : Value) (w0 w : World) (B n g bn bo bb hm ab j pc : Nat) (pA : Option Addr) (M : HM) (all : List ObjM) (L : List Int) (wd : Int → Nat) (rs : List Rf) (A7 : Option Addr) (c7 : Nat) (a : ActM)
    (hst : PSt w0 w B n g bn bo bb hm M all L wd rs v8 v9 A7 c7) (hal : all.length ≤ j) (hrl : rs.length ≤ j) (hj : j ≤ 60) (hab : Blk w ab 49 #[.int .i64 a.k, .int .i64 a.kind, .int .i64 a.tag, .slice pA a.parts.length pc, .string a.text, .int .i64 a.at_, .int .i64 a.by_, .int .i64 a.keep])
    (hpl : a.parts.length ≤ 20) (htl : a.text.size ≤ 300) (hk : a.k = 3) (hn16 : 16 ≤ n)
    (Q : Exit → Act → World → Prop) (hexit : ∀ (v8' v9' y12 y13 y14 y15 y16 y17 y18 y19 y20 y21 y22 y23 y24 y25 y26 y27 y28 y29 y30 y31 y32 y33 y85 y86 y87 y88 y89 y90 y91 y92 y93 y94 y95 y96 y97 y98 y99 y100 y101 y102 y103 y104 y105 y106 y107 y108 y109 y110 y111 y112 y113 y114 y115 y116 y117 y118 y119 y120 y121 y122 y123 y124 y125 y126 y127 y128 y129 y130 y131 y132 y133 y134 y135 y136 y137 y138 y139 y140 y141 y142 y143 y144 y145 y146 y147 y148 y149 y150 y151 y152 y153 y154 y155 y156 y157 y158 y159 y160 y161 y162 y163 y164 y165 y166 y167 y168 y169 y170 y171 y172 y173 y174 y175 y176 y177 y178 y179 y180 y181 y182 y183 y184 y185 y186 y187 y188 y189 y190 y191 y192 y193 y194 y195 y196 y197 y198 y199 y200 y201 y202 y203 y204 y205 y206 y207 y208 y209 y210 y211 y212 y213 y214 y215 y216 y217 y218 y219 y220 y221 y222 y223 y224 y225 y226 y227 y228 y229 y230 y231 y232 y233 y234 y235 y236 y237 y238 y239 y240 y241 y242 y243 y244 y245 y246 y247 y248 y249 y250 y251 y252 y253 y254 y255 y256 y257 y258 y259 y260 y261 y262 y263 y264 y265 y266 y267 y268 y269 y270 y271 y272 y273 y274 y275 y276 y277 y278 y279 y280 y281 y282 y283 y284 y285 y286 y287 y288 y289 y290 y291 y292 y293 y294 y295 y296 y297 : Value) (wx : World), SwR w0 B n g hm j v8' v9' wx → Q .normal ⟨#[x0, x1, x2, x3, x4, .pointer (some ⟨g, 0, none⟩), x6, .pointer (some ⟨hm, 0, none⟩), v8', v9', x10, .pointer (some ⟨ab, 0, none⟩), y12, y13, y14, y15, y16, y17, y18, y19, y20, y21, y22, y23, y24, y25, y26, y27, y28, y29, y30, y31, y32, y33, x34, x35, x36, x37, x38, x39, x40, x41, x42, x43, x44, x45, x46, x47, x48, x49, x50, x51, x52, x53, x54, x55, x56, x57, x58, x59, x60, x61, x62, x63, x64, x65, x66, x67, x68, x69, x70, x71, x72, x73, x74, x75, x76, x77, x78, x79, x80, x81, x82, x83, .int .i64 a.k, y85, y86, y87, y88, y89, y90, y91, y92, y93, y94, y95, y96, y97, y98, y99, y100, y101, y102, y103, y104, y105, y106, y107, y108, y109, y110, y111, y112, y113, y114, y115, y116, y117, y118, y119, y120, y121, y122, y123, y124, y125, y126, y127, y128, y129, y130, y131, y132, y133, y134, y135, y136, y137, y138, y139, y140, y141, y142, y143, y144, y145, y146, y147, y148, y149, y150, y151, y152, y153, y154, y155, y156, y157, y158, y159, y160, y161, y162, y163, y164, y165, y166, y167, y168, y169, y170, y171, y172, y173, y174, y175, y176, y177, y178, y179, y180, y181, y182, y183, y184, y185, y186, y187, y188, y189, y190, y191, y192, y193, y194, y195, y196, y197, y198, y199, y200, y201, y202, y203, y204, y205, y206, y207, y208, y209, y210, y211, y212, y213, y214, y215, y216, y217, y218, y219, y220, y221, y222, y223, y224, y225, y226, y227, y228, y229, y230, y231, y232, y233, y234, y235, y236, y237, y238, y239, y240, y241, y242, y243, y244, y245, y246, y247, y248, y249, y250, y251, y252, y253, y254, y255, y256, y257, y258, y259, y260, y261, y262, y263, y264, y265, y266, y267, y268, y269, y270, y271, y272, y273, y274, y275, y276, y277, y278, y279, y280, y281, y282, y283, y284, y285, y286, y287, y288, y289, y290, y291, y292, y293, y294, y295, y296, y297, x298, x299, x300, x301, x302, x303, x304, x305, x306, x307, x308, x309, x310, x311, x312, x313, x314, x315, x316, x317, x318, x319, x320, x321, x322, x323, x324, x325, x326, x327, x328, x329, x330], []⟩ wx) :
    Code.wp Try.prog swCode Q ⟨#[x0, x1, x2, x3, x4, .pointer (some ⟨g, 0, none⟩), x6, .pointer (some ⟨hm, 0, none⟩), v8, v9, x10, .pointer (some ⟨ab, 0, none⟩), x12, x13, x14, x15, x16, x17, x18, x19, x20, x21, x22, x23, x24, x25, x26, x27, x28, x29, x30, x31, x32, x33, x34, x35, x36, x37, x38, x39, x40, x41, x42, x43, x44, x45, x46, x47, x48, x49, x50, x51, x52, x53, x54, x55, x56, x57, x58, x59, x60, x61, x62, x63, x64, x65, x66, x67, x68, x69, x70, x71, x72, x73, x74, x75, x76, x77, x78, x79, x80, x81, x82, x83, .int .i64 a.k, x85, x86, x87, x88, x89, x90, x91, x92, x93, x94, x95, x96, x97, x98, x99, x100, x101, x102, x103, x104, x105, x106, x107, x108, x109, x110, x111, x112, x113, x114, x115, x116, x117, x118, x119, x120, x121, x122, x123, x124, x125, x126, x127, x128, x129, x130, x131, x132, x133, x134, x135, x136, x137, x138, x139, x140, x141, x142, x143, x144, x145, x146, x147, x148, x149, x150, x151, x152, x153, x154, x155, x156, x157, x158, x159, x160, x161, x162, x163, x164, x165, x166, x167, x168, x169, x170, x171, x172, x173, x174, x175, x176, x177, x178, x179, x180, x181, x182, x183, x184, x185, x186, x187, x188, x189, x190, x191, x192, x193, x194, x195, x196, x197, x198, x199, x200, x201, x202, x203, x204, x205, x206, x207, x208, x209, x210, x211, x212, x213, x214, x215, x216, x217, x218, x219, x220, x221, x222, x223, x224, x225, x226, x227, x228, x229, x230, x231, x232, x233, x234, x235, x236, x237, x238, x239, x240, x241, x242, x243, x244, x245, x246, x247, x248, x249, x250, x251, x252, x253, x254, x255, x256, x257, x258, x259, x260, x261, x262, x263, x264, x265, x266, x267, x268, x269, x270, x271, x272, x273, x274, x275, x276, x277, x278, x279, x280, x281, x282, x283, x284, x285, x286, x287, x288, x289, x290, x291, x292, x293, x294, x295, x296, x297, x298, x299, x300, x301, x302, x303, x304, x305, x306, x307, x308, x309, x310, x311, x312, x313, x314, x315, x316, x317, x318, x319, x320, x321, x322, x323, x324, x325, x326, x327, x328, x329, x330], []⟩ w := by
  have e0 : (a.k == 0) = false := by rw [hk]; rfl
  have e1 : (a.k == 1) = false := by rw [hk]; rfl
  have e2 : (a.k == 2) = false := by rw [hk]; rfl
  have e3 : (a.k == 3) = true := by rw [hk]; rfl
  obtain ⟨A8, c8, rfl⟩ := own_val hst.ws
  obtain ⟨A9, c9, rfl⟩ := own_val hst.rf
  have HST := hide hst
  have HX := hide hexit
  have HBA := hide hab
  clear hst hexit hk hab
  conv => arg 2; whnf
  go_upto_region 50 with fail
  refine reg50 _ _ _ _ _ _ _ _ _ _ _ _ _ _ _ _ _ _ _ _ _ _ _ _ _ _ _ _ _ _ _ _ _ _ _ _ _ _ _ _ _ _ _ _ _ _ _ _ _ _ _ _ _ _ _ _ _ _ _ _ _ _ _ _ _ _ _ _ _ _ _ _ _ _ _ _ _ _ _ _ _ _ _ _ _ _ _ _ _ _ _ _ _ _ _ _ _ _ _ _ _ _ _ _ _ _ _ _ _ _ _ _ _ _ _ _ _ _ _ _ _ _ _ _ _ _ _ _ _ _ _ _ _ _ _ _ _ _ _ _ _ _ _ _ _ _ _ _ _ _ _ _ _ _ _ _ _ _ _ _ _ _ _ _ _ _ _ _ _ _ _ _ _ _ _ _ _ _ _ _ _ _ _ _ _ _ _ _ _ _ _ _ _ _ _ _ _ _ _ _ _ _ _ _ _ _ _ _ _ _ _ _ _ _ _ _ _ _ _ _ _ _ _ _ _ _ _ _ _ _ _ _ _ _ _ _ _ _ _ _ _ _ _ _ _ _ _ _ _ _ _ _ _ _ _ _ _ _ _ _ _ _ _ _ _ _ _ _ _ _ _ _ _ _ _ _ _ _ _ _ _ _ _ _ _ _ _ _ _ _ _ _ _ _ _ _ _ _ _ _ _ _ _ _ _ _ _ _ _ _ _ _ _ _ _ _ _ _ _ _ _ _ _ _ _ _ _ _ _ _ ab pc _ _ _ pA a (by omega) (unhide HBA) _ ?_
  intro f z268 z269 z270 z271 z272 z273 z274 z275 z276 hf
  clear HBA
  go_upto_region 51 with fail
  have hst := unhide HST
  have hr8 := own_rd hst.ws (by omega)
  have hr9 := own_rd hst.rf (by omega)
  obtain ⟨Af8, cf8, hs8, hf8⟩ := slice_from 46 26 1 Try.underlying46 size26 A8 rs.length c8 f hf _ w _ hr8 (by simp) (own_cap hst.ws)
  obtain ⟨Af9, cf9, hs9, hf9⟩ := slice_from 33 51 2 Try.underlying33 size51 A9 rs.length c9 f hf _ w _ hr9 (rfv_len rs) (own_cap hst.rf)
  have hlen : (rs.drop f).length = rs.length - f := List.length_drop
  rw [← hlen] at hs8 hs9
  rw [Nat.mul_one, ← List.map_drop, ← List.map_drop] at hf8
  rw [rfv_drop] at hf9
  have hcl : ∀ r ∈ rs.drop f, ClR L r := fun r hr => hst.cl r (List.mem_of_mem_drop hr)
  obtain ⟨fin, hne, hkn⟩ := hst.sim.needed hcl 60 (by omega)
  have hB := hst.hB
  have l9 := fun b => hst.rf.lt b
  have hg := hst.rep.st.lt
  have hbn := hst.rep.rn.lt
  have hbo := hst.rep.ro.lt
  have hfl : fin.length ≤ 60 := by have := nodup_leI fin L hkn.1 hkn.2; have := L_len hst.sim.nd hst.sim.rng; omega
  have hsz := hst.sz
  have HLEN := hide hlen
  generalize hrs : rs.drop f = rs' at *
  have hrl' : rs'.length ≤ 60 := by omega
  have HRS := hide hrs
  refine reg51 _ _ _ _ _ _ _ _ _ _ _ _ _ _ _ _ _ _ _ _ _ _ _ _ _ _ _ _ _ _ _ _ _ _ _ _ _ _ _ _ _ _ _ _ _ _ _ _ _ _ _ _ _ _ _ _ _ _ _ _ _ _ _ _ _ _ _ _ _ _ _ _ _ _ _ _ _ _ _ _ _ _ _ _ _ _ _ _ _ _ _ _ _ _ _ _ _ _ _ _ _ _ _ _ _ _ _ _ _ _ _ _ _ _ _ _ _ _ _ _ _ _ _ _ _ _ _ _ _ _ _ _ _ _ _ _ _ _ _ _ _ _ _ _ _ _ _ _ _ _ _ _ _ _ _ _ _ _ _ _ _ _ _ _ _ _ _ _ _ _ _ _ _ _ _ _ _ _ _ _ _ _ _ _ _ _ _ _ _ _ _ _ _ _ _ _ _ _ _ _ _ _ _ _ _ _ _ _ _ _ _ _ _ _ _ _ _ _ _ _ _ _ _ _ _ _ _ _ _ _ _ _ _ _ _ _ _ _ _ _ _ _ _ _ _ _ _ _ _ _ _ _ _ _ _ _ _ _ _ _ _ _ _ _ _ _ _ _ _ _ _ _ _ _ _ _ _ _ _ _ _ _ _ _ _ _ _ _ _ _ _ _ _ _ _ _ _ _ _ _ _ _ _ _ _ _ _ _ _ _ _ _ _ _ _ _ _ _ _ _ _ _ _ _ _ _ _ _ _ _ w g bn bo cf8 cf9 Af8 Af9 _ _ M all fin wd rs' (by omega) ⟨hg, hbn, hbo⟩ hs8 hs9 hf8 hf9 (fun b hb => by have := (l9 b hb).1; omega) (fun w3 A3 c3 h3 ho3 => ?_) _ ?_
  · refine (collect_sim hst.sim ((hst.old h3).rep) (by omega) (own_rd ho3 (by omega)) hcl (fun b hb => by have := ho3.lt b hb; have := h3.size; omega) (by omega) (by omega) hne).mono ?_
    rintro e w' ⟨M', d, ob, q0, q1, q2, q3, q4, q5, q6, q7, q8⟩
    have := h3.size
    exact ⟨M', d, ob, q0, ⟨q1, q2, by omega, by omega, (h3.mono (fun _ _ h => h.elim)).trans q5 (fun _ _ h => h), q6, q7, q8⟩, q5⟩
  · intro ob v9' z277 z278 z279 z280 z281 z282 z283 z284 z285 z286 z287 z288 w9 hR
    obtain ⟨M', d, w5, S, hcr, hc59, hS, ho9⟩ := hR
    have hst := unhide HST
    have hgd : rs' = rs.drop f := (unhide HRS).symm
    have hobj9 : RdObjs (PT B bb hm (.slice A8 rs.length c8) (.slice A9 rs.length c9) w.heap.size) w9 A7 all := by
      refine (hst.objs.chg hcr.chg (fun b hb _ e => by have h1 := hb.1; omega)).chg hc59 (fun b hb hl hs => ?_)
      have h1 := hS b hs hl
      have h2 := hb.2.1
      omega
    have hm9 : Blk w9 hm 45 _ := (hst.m.chg hcr.chg (by have := hst.hm_; omega)).chg hc59 (fun hs => by have h1 := hst.m.lt; have h2 := hcr.chg.size; have := hS hm hs (by omega); omega)
    obtain ⟨A9', c9', rfl⟩ := own_val ho9
    have hcls := hst.sim.cls (by omega)
    have hliv : liveR all fin ≤ 500 := by rw [← hcr.sim.sum]; have h1 := hcr.sim.n; have h2 := hcr.sim.s; omega
    have HLV := hide (live_any all L rs' fin 60 (n : Int) (M.now.length : Int) A7 A9' c7 c9' _ _ w9 hobj9 (own_rd ho9 (by omega)) hcls hkn.2 hcl (by omega) hne (fun i hi => by
      have ho := hst.sim.ok i hi
      rcases Decidable.em ((objAt all i).kind = 4) with h4 | h4
      · have := (ho.x4 h4).2.2; omega
      · rw [ho.x0 h4]; show 0 ≤ _; omega) (by omega) (by omega))
    have m0 := hm9.cell 0
    have m1 := hm9.cell 1
    have m2 := hm9.cell 2
    simp only [List.getElem?_toArray, List.getElem?_cons_zero, List.getElem?_cons_succ] at m0 m1 m2
    have HCR := hide hcr
    have HC59 := hide hc59
    have HS := hide hS
    have HO9 := hide ho9
    have HM9 := hide hm9
    have HOB9 := hide hobj9
    generalize hlve : liveR all fin = lv at *
    have HLVE := hide hlve
    clear hcr hc59 hS ho9 hm9 hobj9 hst hgd hcls hs8 hs9 hf8 hf9 hr8 hr9 hlve hcl l9 hne hkn hrs hlen
    go_wp2_with fail
    refine (unhide HLV).mono ?_
    rintro e w10 ⟨rfl, hc10⟩
    have hm10 := (unhide HM9).chg hc10 id
    have m0 := hm10.cell 0
    have m1 := hm10.cell 1
    have m2 := hm10.cell 2
    have f1 := hm10.frozen 1
    simp only [List.getElem?_toArray, List.getElem?_cons_zero, List.getElem?_cons_succ] at m0 m1 m2
    have HC10 := hide hc10
    have HM10 := hide hm10
    clear hc10 hm10
    try dsimp only
    go_wp2_with fail
    refine unhide HX _ _ _ _ _ _ _ _ _ _ _ _ _ _ _ _ _ _ _ _ _ _ _ _ _ _ _ _ _ _ _ _ _ _ _ _ _ _ _ _ _ _ _ _ _ _ _ _ _ _ _ _ _ _ _ _ _ _ _ _ _ _ _ _ _ _ _ _ _ _ _ _ _ _ _ _ _ _ _ _ _ _ _ _ _ _ _ _ _ _ _ _ _ _ _ _ _ _ _ _ _ _ _ _ _ _ _ _ _ _ _ _ _ _ _ _ _ _ _ _ _ _ _ _ _ _ _ _ _ _ _ _ _ _ _ _ _ _ _ _ _ _ _ _ _ _ _ _ _ _ _ _ _ _ _ _ _ _ _ _ _ _ _ _ _ _ _ _ _ _ _ _ _ _ _ _ _ _ _ _ _ _ _ _ _ _ _ _ _ _ _ _ _ _ _ _ _ _ _ _ _ _ _ _ _ _ _ _ _ _ _ _ _ _ _ _ _ _ _ _ _ _ _ _ _ _ _ _ _ _ _ _ _ _ _ _ _ _ ?_
    have hst := unhide HST
    have hcr := unhide HCR
    have hlt9 := fun b => (unhide HO9).lt b
    have hs5 := hcr.chg.size
    have hs9 := (unhide HC59).size
    have hml := hst.m.lt
    have hhm := hst.hm_
    have h10 : Chg (fun k => k = hm) w9 (w10.setCell ⟨hm, 1, none⟩ (.int .i64 (lv : Int))) := ((unhide HC10).mono (S' := fun k => k = hm) (fun _ _ h => h.elim)).setCell (p := ⟨hm, 1, none⟩) (fun _ => rfl) _
    have h59 : Chg (fun k => k = hm ∨ S k) w5 (w10.setCell ⟨hm, 1, none⟩ (.int .i64 (lv : Int))) := ((unhide HC59).mono (fun _ _ h => .inr h)).trans h10 (fun _ _ h => .inl h)
    refine ⟨bo, bn, d, M', all, fin, _, rs', A7, c7, by omega, by have := unhide HLEN; omega, hst.coll hcr.rep hcr.sim hcr.cl hcr.sz (by omega) hcr.chg (fun b hb _ => hb) h59 (fun b hb hl => ?_) hcr.dl hcr.out hcr.ol ?_ ?_ (fun b hb => (hlt9 b hb).1)⟩
    · rcases hb with e | e
      · exact .inl e
      · exact .inr ((unhide HS) b e hl)
    · have h5 : lv = M'.now.length := by rw [← unhide HLVE]; exact hcr.sim.sum.symm
      rw [← h5]
      exact (unhide HM10).set_ 1 (.int .i64 (lv : Int))
    · refine own_chg_base (own_chg (own_chg (unhide HO9) (unhide HC10) (fun _ _ => id)) ((Chg.refl (fun k => k = hm) w10).setCell (fun _ => rfl) _) (fun k hk e => by have := hlt9 k hk; omega)) (by omega)
end Go.Proofs.Ytlgkgglecgdkgaa
