/-
  Region 21 of HeapPlays: a part and its reference are appended, in whatever order.
-/
import Derived.Deep.RegionLaw
import Derived.Deep.RegionHeld3
import Derived.Test.YtlgkgglecgdkgaaSwa
namespace Go.Proofs.Ytlgkgglecgdkgaa
open Go.RowKit
set_option maxHeartbeats 2000000
set_option maxRecDepth 1000000
/-- The region of that number. -/
def findReg (k : Nat) : Code → Option Code
  | .region i o b => if i = k then some (.region i o b) else none
  | .block _ c => findReg k c
  | .loop c => findReg k c
  | .seq a b => match findReg k a with
    | some c => some c
    | none => findReg k b
  | .scope c => findReg k c
  | .cond _ a b => match findReg k a with
    | some c => some c
    | none => findReg k b
  | _ => none
noncomputable def reg21C : Code := (Try.f4.body.bind (findReg 21)).getD .skip
theorem own_blk_ne_at {w : World} {g : Nat} {t : TypeId} {cs : Array Value} {base : Nat} {e : TypeId} {size n : Nat} {v : Value} {xs : List Value} (_h : w.ownsRow base e size v n xs) (_hg : Blk w g t cs) (hn : v.ownBlock ≠ some g) : v.ownBlock ≠ some g := hn
theorem reg21_fin {W w : World} {B ob k : Nat} {v12 vP v12' v4 o0 o1 o2 : Value} {us vs x y : List Value} {R : World → Prop}
    (hexit : ∀ w', w'.ownsRow B 26 1 v12' (k + 1) (us ++ x) → w'.ownsRow B 51 2 v4 (k + 1) (vs ++ y) → Blk w' ob 35 #[o0, o1, o2, v4] → Chg (fun j => j = ob ∨ v12.ownBlock = some j ∨ vP.ownBlock = some j) W w' → R w')
    (h8 : w.ownsRow B 26 1 v12' (k + 1) (us ++ x)) (h9 : w.ownsRow B 51 2 v4 (k + 1) (vs ++ y)) (hc : Chg (fun j => v12.ownBlock = some j ∨ vP.ownBlock = some j) W w) (hob : Blk W ob 35 #[o0, o1, o2, vP]) (n8 : v12.ownBlock ≠ some ob) (n9 : vP.ownBlock ≠ some ob) :
    R (w.setCell ⟨ob, 3, none⟩ v4) := by
  have hb : Blk w ob 35 _ := hob.chg hc (by rintro (h | h); exact n8 h; exact n9 h)
  have nS := (Chg.refl (fun j => j = ob) w).setCell (p := ⟨ob, 3, none⟩) (fun _ => rfl) v4
  have m8 : v12'.ownBlock ≠ some ob := own_blk_ne h8 hb (by decide)
  have m9 : v4.ownBlock ≠ some ob := own_blk_ne h9 hb (by decide)
  exact hexit _ (own_chg h8 nS (fun j hj e => m8 (e ▸ hj))) (own_chg h9 nS (fun j hj e => m9 (e ▸ hj))) (hb.set_ 3 v4) ((hc.mono (fun j _ h => .inr h)).trans nS (fun j _ e => .inl e))
theorem reg21 (x0 x1 x2 x3 x4 x5 x6 x7 x8 x9 x10 x11 x14 x17 x18 x19 x20 x21 x22 x23 x24 x25 x26 x27 x28 x29 x30 x31 x32 x33 x34 x35 x36 x37 x38 x39 x40 x41 x42 x43 x44 x45 x46 x47 x48 x49 x50 x51 x52 x53 x54 x55 x56 x57 x58 x59 x60 x61 x62 x63 x64 x65 x66 x67 x68 x69 x70 x71 x72 x73 x74 x75 x76 x77 x78 x79 x80 x81 x82 x83 x84 x85 x86 x87 x88 x89 x90 x91 x92 x93 x94 x95 x96 x97 x98 x99 x100 x101 x102 x103 x104 x105 x106 x107 x108 x109 x110 x111 x112 x113 x114 x115 x116 x117 x118 x119 x120 x121 x122 x123 x124 x125 x126 x127 x128 x129 x130 x131 x132 x133 x134 x135 x136 x137 x138 x139 x140 x141 x142 x143 x144 x145 x146 x147 x148 x149 x150 x151 x152 x153 x154 x155 x156 x157 x158 x159 x160 x161 x162 x163 x164 x165 x166 x167 x168 x169 x170 x171 x172 x173 x174 x175 x176 x177 x178 x179 x180 x181 x182 x183 x184 x185 x186 x187 x188 x189 x190 x191 x192 x193 x194 x195 x196 x197 x198 x199 x200 x201 x202 x203 x204 x205 x206 x207 x208 x209 x210 x211 x212 x213 x214 x215 x216 x217 x218 x219 x220 x221 x222 x223 x224 x225 x226 x227 x228 x229 x230 x231 x232 x233 x234 x235 x236 x237 x238 x239 x240 x241 x242 x243 x244 x245 x246 x247 x248 x249 x250 x251 x252 x253 x254 x255 x256 x257 x258 x259 x260 x261 x262 x263 x264 x265 x266 x267 x268 x269 x270 x271 x272 x273 x274 x275 x276 x277 x278 x279 x280 x281 x282 x283 x284 x285 x286 x287 x288 x289 x290 x291 x292 x293 x294 x295 x296 x297 x298 x299 x300 x301 x302 x303 x304 x305 x306 x307 x308 x309 x310 x311 x312 x313 x314 x315 x316 x317 x318 x319 x320 x321 x322 x323 x324 x325 x326 x327 x328 x329 x330 v12 vP o0 o1 o2 : Value) (W : World) (B ob rb k X0 : Nat) (rbo : Bool) (ri : Int) (us vs : List Value)
    (hk : k ≤ 1000) (hB : B ≤ W.heap.size) (h8 : W.ownsRow B 26 1 v12 k us) (h9 : W.ownsRow B 51 2 vP k vs) (hob : Blk W ob 35 #[o0, o1, o2, vP]) (hrb : Blk W rb 51 #[.bool rbo, .int .i64 ri]) (nr : vP.ownBlock ≠ some rb)
    (Q : Exit → Act → World → Prop) (hexit : ∀ (v12' v4 y111 y112 y113 y114 y115 y116 y117 y118 y119 y120 : Value) (w' : World), w'.ownsRow B 26 1 v12' (k + 1) (us ++ [wv X0]) → w'.ownsRow B 51 2 v4 (k + 1) (vs ++ rfv (rbo, ri)) → Blk w' ob 35 #[o0, o1, o2, v4] → Chg (fun j => j = ob ∨ v12.ownBlock = some j ∨ vP.ownBlock = some j) W w' → Q .normal ⟨#[x0, x1, x2, x3, x4, x5, x6, x7, x8, x9, x10, x11, v12', .pointer (some ⟨ob, 0, none⟩), x14, .int .u64 (X0 : Int), .pointer (some ⟨rb, 0, none⟩), x17, x18, x19, x20, x21, x22, x23, x24, x25, x26, x27, x28, x29, x30, x31, x32, x33, x34, x35, x36, x37, x38, x39, x40, x41, x42, x43, x44, x45, x46, x47, x48, x49, x50, x51, x52, x53, x54, x55, x56, x57, x58, x59, x60, x61, x62, x63, x64, x65, x66, x67, x68, x69, x70, x71, x72, x73, x74, x75, x76, x77, x78, x79, x80, x81, x82, x83, x84, x85, x86, x87, x88, x89, x90, x91, x92, x93, x94, x95, x96, x97, x98, x99, x100, x101, x102, x103, x104, x105, x106, x107, x108, x109, x110, y111, y112, y113, y114, y115, y116, y117, y118, y119, y120, x121, x122, x123, x124, x125, x126, x127, x128, x129, x130, x131, x132, x133, x134, x135, x136, x137, x138, x139, x140, x141, x142, x143, x144, x145, x146, x147, x148, x149, x150, x151, x152, x153, x154, x155, x156, x157, x158, x159, x160, x161, x162, x163, x164, x165, x166, x167, x168, x169, x170, x171, x172, x173, x174, x175, x176, x177, x178, x179, x180, x181, x182, x183, x184, x185, x186, x187, x188, x189, x190, x191, x192, x193, x194, x195, x196, x197, x198, x199, x200, x201, x202, x203, x204, x205, x206, x207, x208, x209, x210, x211, x212, x213, x214, x215, x216, x217, x218, x219, x220, x221, x222, x223, x224, x225, x226, x227, x228, x229, x230, x231, x232, x233, x234, x235, x236, x237, x238, x239, x240, x241, x242, x243, x244, x245, x246, x247, x248, x249, x250, x251, x252, x253, x254, x255, x256, x257, x258, x259, x260, x261, x262, x263, x264, x265, x266, x267, x268, x269, x270, x271, x272, x273, x274, x275, x276, x277, x278, x279, x280, x281, x282, x283, x284, x285, x286, x287, x288, x289, x290, x291, x292, x293, x294, x295, x296, x297, x298, x299, x300, x301, x302, x303, x304, x305, x306, x307, x308, x309, x310, x311, x312, x313, x314, x315, x316, x317, x318, x319, x320, x321, x322, x323, x324, x325, x326, x327, x328, x329, x330], []⟩ w') :
    Code.wp Try.prog reg21C Q ⟨#[x0, x1, x2, x3, x4, x5, x6, x7, x8, x9, x10, x11, v12, .pointer (some ⟨ob, 0, none⟩), x14, .int .u64 (X0 : Int), .pointer (some ⟨rb, 0, none⟩), x17, x18, x19, x20, x21, x22, x23, x24, x25, x26, x27, x28, x29, x30, x31, x32, x33, x34, x35, x36, x37, x38, x39, x40, x41, x42, x43, x44, x45, x46, x47, x48, x49, x50, x51, x52, x53, x54, x55, x56, x57, x58, x59, x60, x61, x62, x63, x64, x65, x66, x67, x68, x69, x70, x71, x72, x73, x74, x75, x76, x77, x78, x79, x80, x81, x82, x83, x84, x85, x86, x87, x88, x89, x90, x91, x92, x93, x94, x95, x96, x97, x98, x99, x100, x101, x102, x103, x104, x105, x106, x107, x108, x109, x110, x111, x112, x113, x114, x115, x116, x117, x118, x119, x120, x121, x122, x123, x124, x125, x126, x127, x128, x129, x130, x131, x132, x133, x134, x135, x136, x137, x138, x139, x140, x141, x142, x143, x144, x145, x146, x147, x148, x149, x150, x151, x152, x153, x154, x155, x156, x157, x158, x159, x160, x161, x162, x163, x164, x165, x166, x167, x168, x169, x170, x171, x172, x173, x174, x175, x176, x177, x178, x179, x180, x181, x182, x183, x184, x185, x186, x187, x188, x189, x190, x191, x192, x193, x194, x195, x196, x197, x198, x199, x200, x201, x202, x203, x204, x205, x206, x207, x208, x209, x210, x211, x212, x213, x214, x215, x216, x217, x218, x219, x220, x221, x222, x223, x224, x225, x226, x227, x228, x229, x230, x231, x232, x233, x234, x235, x236, x237, x238, x239, x240, x241, x242, x243, x244, x245, x246, x247, x248, x249, x250, x251, x252, x253, x254, x255, x256, x257, x258, x259, x260, x261, x262, x263, x264, x265, x266, x267, x268, x269, x270, x271, x272, x273, x274, x275, x276, x277, x278, x279, x280, x281, x282, x283, x284, x285, x286, x287, x288, x289, x290, x291, x292, x293, x294, x295, x296, x297, x298, x299, x300, x301, x302, x303, x304, x305, x306, x307, x308, x309, x310, x311, x312, x313, x314, x315, x316, x317, x318, x319, x320, x321, x322, x323, x324, x325, x326, x327, x328, x329, x330], []⟩ W := by
  obtain ⟨i0, hi0, hz0, hz1, hz2⟩ := info_parts info51
  obtain ⟨j0, hj0, hy0, hy1a, hy2a⟩ := info_parts info26
  have HX := hide hexit
  have HW8 := hide h8
  have HW9 := hide h9
  have HOB := hide hob
  have HRB := hide hrb
  obtain ⟨S, hSd⟩ : ∃ S : Nat → Prop, S = fun j => j = ob ∨ v12.ownBlock = some j ∨ vP.ownBlock = some j := ⟨_, rfl⟩
  have s8 : ∀ k, v12.ownBlock = some k → S k := fun k h => by rw [hSd]; exact .inr (.inl h)
  have s9 : ∀ k, vP.ownBlock = some k → S k := fun k h => by rw [hSd]; exact .inr (.inr h)
  have so : S ob := by rw [hSd]; exact .inl rfl
  have no8 : v12.ownBlock ≠ some ob := own_blk_ne h8 hob (by decide)
  have no9 : vP.ownBlock ≠ some ob := own_blk_ne h9 hob (by decide)
  have nr8 : v12.ownBlock ≠ some rb := own_blk_ne h8 hrb (by decide)
  have nr9 : vP.ownBlock ≠ some rb := own_blk_ne_at h9 hrb nr
  have nro : rb ≠ ob := Blk.ne_ hrb hob (by decide)
  have n0 : Chg (fun _ => False) W W := Chg.refl _ W
  have N0 := hide n0.drew
  have N1 := hide (n0.alloc (.cells #[.int .u64 (X0 : Int)] 26)).drew
  have N4 := hide (n0.alloc (.cells #[.bool rbo, .int .i64 ri] 51)).drew
  have N2 := hide ((n0.alloc (.cells #[.int .u64 (X0 : Int)] 26)).alloc (.cells #[.bool rbo, .int .i64 ri] 51)).drew
  have N3 := hide ((n0.alloc (.cells #[.bool rbo, .int .i64 ri] 51)).alloc (.cells #[.int .u64 (X0 : Int)] 26)).drew
  have P81 := hide (own_chg (unhide HW8) (unhide N1) (fun _ _ => id))
  have P91 := hide (own_chg (unhide HW9) (unhide N1) (fun _ _ => id))
  have B1 := hide (Nat.le_trans hB (unhide N1).size)
  have P82 := hide (own_chg (unhide HW8) (unhide N2) (fun _ _ => id))
  have P92 := hide (own_chg (unhide HW9) (unhide N2) (fun _ _ => id))
  have B2 := hide (Nat.le_trans hB (unhide N2).size)
  have P83 := hide (own_chg (unhide HW8) (unhide N3) (fun _ _ => id))
  have P93 := hide (own_chg (unhide HW9) (unhide N3) (fun _ _ => id))
  have B3 := hide (Nat.le_trans hB (unhide N3).size)
  have P84 := hide (own_chg (unhide HW8) (unhide N4) (fun _ _ => id))
  have P94 := hide (own_chg (unhide HW9) (unhide N4) (fun _ _ => id))
  have B4 := hide (Nat.le_trans hB (unhide N4).size)
  have X1 := hide ((rd_new W W.heap.size 26 [wv X0] rfl).chg (Chg.refl (fun _ => False) _).drew (fun _ _ _ => id))
  have X2 := hide ((rd_new W W.heap.size 26 [wv X0] rfl).chg ((Chg.refl (fun _ => False) _).alloc (.cells #[.bool rbo, .int .i64 ri] 51)).drew (fun _ _ _ => id))
  have X3 := hide ((rd_new (W.alloc (.cells #[.bool rbo, .int .i64 ri] 51)) (W.heap.size + 1) 26 [wv X0] (by rw [size_alloc])).chg (Chg.refl (fun _ => False) _).drew (fun _ _ _ => id))
  have Y4 := hide ((rd_new W W.heap.size 51 (rfv (rbo, ri)) rfl).chg (Chg.refl (fun _ => False) _).drew (fun _ _ _ => id))
  have Y3 := hide ((rd_new W W.heap.size 51 (rfv (rbo, ri)) rfl).chg ((Chg.refl (fun _ => False) _).alloc (.cells #[.int .u64 (X0 : Int)] 26)).drew (fun _ _ _ => id))
  have Y2 := hide ((rd_new (W.alloc (.cells #[.int .u64 (X0 : Int)] 26)) (W.heap.size + 1) 51 (rfv (rbo, ri)) (by rw [size_alloc])).chg (Chg.refl (fun _ => False) _).drew (fun _ _ _ => id))
  have KS : ∀ W', Chg (fun j => v12.ownBlock = some j ∨ vP.ownBlock = some j) W W' → Blk W' rb 51 #[.bool rbo, .int .i64 ri] ∧ Blk W' ob 35 #[o0, o1, o2, vP] := by
    intro W' hc
    exact ⟨(unhide HRB).chg hc (by rintro (h | h); exact nr8 h; exact nr9 h), (unhide HOB).chg hc (by rintro (h | h); exact no8 h; exact no9 h)⟩
  have KSH := hide KS
  have c0 := hrb.cell 0
  have c1 := hrb.cell 1
  have c3 := hob.cell 3
  have f3 := hob.frozen 3
  simp only [List.getElem?_toArray, List.getElem?_cons_zero, List.getElem?_cons_succ] at c0 c1 c3
  have hx1 : ∀ u ∈ [wv X0], u.oneCell' = true := by intro u hu; simp at hu; subst hu; rfl
  have hy1 : ∀ u ∈ rfv (rbo, ri), u.oneCell' = true := by intro u hu; simp [rfv] at hu; rcases hu with rfl | rfl <;> rfl
  have mx1 : k + 1 ≤ maxLen := by simp only [maxLen]; omega
  have mx2 : (k + 1) * 8 ≤ 140737488355328 := by omega
  have mx3 : (k + 1) * 16 ≤ 140737488355328 := by omega
  have l8 : ∀ j, v12.ownBlock = some j → j < W.heap.size := fun j h => ((unhide HW8).lt j h).2
  have l9 : ∀ j, vP.ownBlock = some j → j < W.heap.size := fun j h => ((unhide HW9).lt j h).2
  have lo := hob.lt
  have lr := hrb.lt
  have L8 := hide l8
  have L9 := hide l9
  have S8 := hide s8
  have S9 := hide s9
  have SO := hide so
  have SD := hide hSd
  have NO8 := hide no8
  have NO9 := hide no9
  clear n0 hSd l8 l9 s8 s9 so no8 no9 nr8 nr9 nro hexit h8 h9 hob hrb KS
  conv => arg 2; whnf
  refine wp_region_noPanic ?_
  go_region_law
    (first
    | (refine step_append_rd _ ?_ (.tmp 111) (.tmp 113) 46 ?_ B 26 j0 (.int .u64 0) 1 8 Try.underlying46 hj0 hy0 hy1a hy2a ?_ (Nat.succ_pos 0) v12 k us ?_ (unhide P81) _ (some ⟨W.heap.size, 0, none⟩) 1 1 [wv X0] ?_ ?_ (unhide X1) hx1 mx1 mx2 (unhide B1) ?_; any_goals (with_unfolding_all rfl)
       intro v3 w3 ho3 hc3 hat
       have h9 := own_chg (unhide P91) hc3 (fun k hk hs => own_own_ne (unhide P81) (unhide P91) (by decide) k hs hk)
       have hpc : Chg (fun j => v12.ownBlock = some j ∨ vP.ownBlock = some j) W w3 := (Chg.mono (unhide N1) (fun _ _ h => h.elim)).trans hc3 (fun k _ hs => .inl hs)
       have hk3 := unhide KSH _ hpc
       have e3 := hk3.1.lt
       have e4 := hk3.2.lt
       have d0 := hk3.1.cell 0
       have d1 := hk3.1.cell 1
       have d3 := hk3.2.cell 3
       have g3 := hk3.2.frozen 3
       simp only [List.getElem?_toArray, List.getElem?_cons_zero, List.getElem?_cons_succ] at d0 d1 d3
       have HPB : B ≤ w3.heap.size := Nat.le_trans hB hpc.size
       have HPBa : B ≤ (w3.alloc (.cells #[.bool rbo, .int .i64 ri] 51)).heap.size := by rw [size_alloc]; exact Nat.le_succ_of_le HPB
       have HPC := hide hpc
       have HPCa := hide (hpc.alloc (.cells #[.bool rbo, .int .i64 ri] 51))
       have HF8 := hide ho3
       have HP9 := hide h9
       clear ho3 hc3 hat h9 hpc hk3)
    | (refine step_append_rd _ ?_ (.tmp 111) (.tmp 113) 46 ?_ B 26 j0 (.int .u64 0) 1 8 Try.underlying46 hj0 hy0 hy1a hy2a ?_ (Nat.succ_pos 0) v12 k us ?_ (unhide P82) _ (some ⟨W.heap.size, 0, none⟩) 1 1 [wv X0] ?_ ?_ (unhide X2) hx1 mx1 mx2 (unhide B2) ?_; any_goals (with_unfolding_all rfl)
       intro v3 w3 ho3 hc3 hat
       have h9 := own_chg (unhide P92) hc3 (fun k hk hs => own_own_ne (unhide P82) (unhide P92) (by decide) k hs hk)
       have hpc : Chg (fun j => v12.ownBlock = some j ∨ vP.ownBlock = some j) W w3 := (Chg.mono (unhide N2) (fun _ _ h => h.elim)).trans hc3 (fun k _ hs => .inl hs)
       have hk3 := unhide KSH _ hpc
       have e3 := hk3.1.lt
       have e4 := hk3.2.lt
       have d0 := hk3.1.cell 0
       have d1 := hk3.1.cell 1
       have d3 := hk3.2.cell 3
       have g3 := hk3.2.frozen 3
       simp only [List.getElem?_toArray, List.getElem?_cons_zero, List.getElem?_cons_succ] at d0 d1 d3
       have HPY := hide ((unhide Y2).chg hc3 (fun b hb _ hs => by have h1 := unhide L8 b hs; have h2 : b = _ := hb; omega))
       have HPB : B ≤ w3.heap.size := Nat.le_trans hB hpc.size
       have HPBa : B ≤ (w3.alloc (.cells #[.bool rbo, .int .i64 ri] 51)).heap.size := by rw [size_alloc]; exact Nat.le_succ_of_le HPB
       have HPC := hide hpc
       have HPCa := hide (hpc.alloc (.cells #[.bool rbo, .int .i64 ri] 51))
       have HF8 := hide ho3
       have HP9 := hide h9
       clear ho3 hc3 hat h9 hpc hk3)
    | (refine step_append_rd _ ?_ (.tmp 111) (.tmp 113) 46 ?_ B 26 j0 (.int .u64 0) 1 8 Try.underlying46 hj0 hy0 hy1a hy2a ?_ (Nat.succ_pos 0) v12 k us ?_ (unhide P83) _ (some ⟨W.heap.size + 1, 0, none⟩) 1 1 [wv X0] ?_ ?_ (unhide X3) hx1 mx1 mx2 (unhide B3) ?_; any_goals (with_unfolding_all rfl)
       intro v3 w3 ho3 hc3 hat
       have h9 := own_chg (unhide P93) hc3 (fun k hk hs => own_own_ne (unhide P83) (unhide P93) (by decide) k hs hk)
       have hpc : Chg (fun j => v12.ownBlock = some j ∨ vP.ownBlock = some j) W w3 := (Chg.mono (unhide N3) (fun _ _ h => h.elim)).trans hc3 (fun k _ hs => .inl hs)
       have hk3 := unhide KSH _ hpc
       have e3 := hk3.1.lt
       have e4 := hk3.2.lt
       have d0 := hk3.1.cell 0
       have d1 := hk3.1.cell 1
       have d3 := hk3.2.cell 3
       have g3 := hk3.2.frozen 3
       simp only [List.getElem?_toArray, List.getElem?_cons_zero, List.getElem?_cons_succ] at d0 d1 d3
       have HPY := hide ((unhide Y3).chg hc3 (fun b hb _ hs => by have h1 := unhide L8 b hs; have h2 : b = _ := hb; omega))
       have HPB : B ≤ w3.heap.size := Nat.le_trans hB hpc.size
       have HPBa : B ≤ (w3.alloc (.cells #[.bool rbo, .int .i64 ri] 51)).heap.size := by rw [size_alloc]; exact Nat.le_succ_of_le HPB
       have HPC := hide hpc
       have HPCa := hide (hpc.alloc (.cells #[.bool rbo, .int .i64 ri] 51))
       have HF8 := hide ho3
       have HP9 := hide h9
       clear ho3 hc3 hat h9 hpc hk3)
    | (refine step_append_rd _ ?_ (.tmp 111) (.tmp 113) 46 ?_ B 26 j0 (.int .u64 0) 1 8 Try.underlying46 hj0 hy0 hy1a hy2a ?_ (Nat.succ_pos 0) v12 k us ?_ ((unhide HQ8).alloc (.cells #[.int .u64 (X0 : Int)] 26)) _ (some ⟨w4.heap.size, 0, none⟩) 1 1 [wv X0] ?_ ?_ (rd_new w4 w4.heap.size 26 [wv X0] rfl) hx1 mx1 mx2 (HQBa) ?_; any_goals (with_unfolding_all rfl)
       intro v3 w3 ho3 hc3 hat
       have h9 := own_chg ((unhide HF9).alloc (.cells #[.int .u64 (X0 : Int)] 26)) hc3 (fun k hk hs => own_own_ne ((unhide HQ8).alloc (.cells #[.int .u64 (X0 : Int)] 26)) ((unhide HF9).alloc (.cells #[.int .u64 (X0 : Int)] 26)) (by decide) k hs hk)
       have hpc : Chg (fun j => v12.ownBlock = some j ∨ vP.ownBlock = some j) W w3 := (unhide HQCa).trans hc3 (fun k _ hs => .inl hs)
       have hk3 := unhide KSH _ hpc
       have d3 := hk3.2.cell 3
       have g3 := hk3.2.frozen 3
       simp only [List.getElem?_toArray, List.getElem?_cons_zero, List.getElem?_cons_succ] at d3
       have HF8 := hide ho3
       have HF9 := hide h9
       have HFC := hide hpc
       clear ho3 hc3 hat h9 hpc hk3)
    | (refine step_append_rd _ ?_ (.tmp 111) (.tmp 113) 46 ?_ B 26 j0 (.int .u64 0) 1 8 Try.underlying46 hj0 hy0 hy1a hy2a ?_ (Nat.succ_pos 0) v12 k us ?_ (unhide HQ8) _ (some ⟨W.heap.size, 0, none⟩) 1 1 [wv X0] ?_ ?_ (unhide HQX) hx1 mx1 mx2 (HQB) ?_; any_goals (with_unfolding_all rfl)
       intro v3 w3 ho3 hc3 hat
       have h9 := own_chg (unhide HF9) hc3 (fun k hk hs => own_own_ne (unhide HQ8) (unhide HF9) (by decide) k hs hk)
       have hpc : Chg (fun j => v12.ownBlock = some j ∨ vP.ownBlock = some j) W w3 := (unhide HQC).trans hc3 (fun k _ hs => .inl hs)
       have hk3 := unhide KSH _ hpc
       have d3 := hk3.2.cell 3
       have g3 := hk3.2.frozen 3
       simp only [List.getElem?_toArray, List.getElem?_cons_zero, List.getElem?_cons_succ] at d3
       have HF8 := hide ho3
       have HF9 := hide h9
       have HFC := hide hpc
       clear ho3 hc3 hat h9 hpc hk3)
    | (refine step_append_rd _ ?_ (.tmp 111) (.tmp 113) 46 ?_ B 26 j0 (.int .u64 0) 1 8 Try.underlying46 hj0 hy0 hy1a hy2a ?_ (Nat.succ_pos 0) v12 k us ?_ (unhide HQ8) _ (some ⟨W.heap.size + 1, 0, none⟩) 1 1 [wv X0] ?_ ?_ (unhide HQX) hx1 mx1 mx2 (HQB) ?_; any_goals (with_unfolding_all rfl)
       intro v3 w3 ho3 hc3 hat
       have h9 := own_chg (unhide HF9) hc3 (fun k hk hs => own_own_ne (unhide HQ8) (unhide HF9) (by decide) k hs hk)
       have hpc : Chg (fun j => v12.ownBlock = some j ∨ vP.ownBlock = some j) W w3 := (unhide HQC).trans hc3 (fun k _ hs => .inl hs)
       have hk3 := unhide KSH _ hpc
       have d3 := hk3.2.cell 3
       have g3 := hk3.2.frozen 3
       simp only [List.getElem?_toArray, List.getElem?_cons_zero, List.getElem?_cons_succ] at d3
       have HF8 := hide ho3
       have HF9 := hide h9
       have HFC := hide hpc
       clear ho3 hc3 hat h9 hpc hk3)
    | (refine step_append_rd _ ?_ (.tmp 116) (.tmp 118) 33 ?_ B 51 i0 (.agg #[.bool false, .int .i64 0]) 2 16 Try.underlying33 hi0 hz0 hz1 hz2 ?_ (Nat.succ_pos 1) vP k vs ?_ (unhide P94) _ (some ⟨W.heap.size, 0, none⟩) 1 1 (rfv (rbo, ri)) ?_ ?_ (unhide Y4) hy1 mx1 mx3 (unhide B4) ?_; any_goals (with_unfolding_all rfl)
       intro v4 w4 ho4 hc4 hat4
       obtain ⟨A4, c4, rfl⟩ := own_val ho4
       have h8 := own_chg (unhide P84) hc4 (fun k hk hs => own_own_ne (unhide P84) (unhide P94) (by decide) k hk hs)
       have hpc : Chg (fun j => v12.ownBlock = some j ∨ vP.ownBlock = some j) W w4 := (Chg.mono (unhide N4) (fun _ _ h => h.elim)).trans hc4 (fun k _ hs => .inr hs)
       have hk4 := unhide KSH _ hpc
       have e5 := hk4.2.lt
       have d4 := hk4.2.cell 3
       have g4 := hk4.2.frozen 3
       simp only [List.getElem?_toArray, List.getElem?_cons_zero, List.getElem?_cons_succ] at d4
       have HQB : B ≤ w4.heap.size := Nat.le_trans hB hpc.size
       have HQBa : B ≤ (w4.alloc (.cells #[.int .u64 (X0 : Int)] 26)).heap.size := by rw [size_alloc]; exact Nat.le_succ_of_le HQB
       have HQC := hide hpc
       have HQCa := hide (hpc.alloc (.cells #[.int .u64 (X0 : Int)] 26))
       have HF9 := hide ho4
       have HQ8 := hide h8
       clear ho4 hc4 hat4 h8 hpc hk4)
    | (refine step_append_rd _ ?_ (.tmp 116) (.tmp 118) 33 ?_ B 51 i0 (.agg #[.bool false, .int .i64 0]) 2 16 Try.underlying33 hi0 hz0 hz1 hz2 ?_ (Nat.succ_pos 1) vP k vs ?_ (unhide P92) _ (some ⟨W.heap.size + 1, 0, none⟩) 1 1 (rfv (rbo, ri)) ?_ ?_ (unhide Y2) hy1 mx1 mx3 (unhide B2) ?_; any_goals (with_unfolding_all rfl)
       intro v4 w4 ho4 hc4 hat4
       obtain ⟨A4, c4, rfl⟩ := own_val ho4
       have h8 := own_chg (unhide P82) hc4 (fun k hk hs => own_own_ne (unhide P82) (unhide P92) (by decide) k hk hs)
       have hpc : Chg (fun j => v12.ownBlock = some j ∨ vP.ownBlock = some j) W w4 := (Chg.mono (unhide N2) (fun _ _ h => h.elim)).trans hc4 (fun k _ hs => .inr hs)
       have hk4 := unhide KSH _ hpc
       have e5 := hk4.2.lt
       have d4 := hk4.2.cell 3
       have g4 := hk4.2.frozen 3
       simp only [List.getElem?_toArray, List.getElem?_cons_zero, List.getElem?_cons_succ] at d4
       have HQX := hide ((unhide X2).chg hc4 (fun b hb _ hs => by have h1 := unhide L9 b hs; have h2 : b = _ := hb; omega))
       have HQB : B ≤ w4.heap.size := Nat.le_trans hB hpc.size
       have HQBa : B ≤ (w4.alloc (.cells #[.int .u64 (X0 : Int)] 26)).heap.size := by rw [size_alloc]; exact Nat.le_succ_of_le HQB
       have HQC := hide hpc
       have HQCa := hide (hpc.alloc (.cells #[.int .u64 (X0 : Int)] 26))
       have HF9 := hide ho4
       have HQ8 := hide h8
       clear ho4 hc4 hat4 h8 hpc hk4)
    | (refine step_append_rd _ ?_ (.tmp 116) (.tmp 118) 33 ?_ B 51 i0 (.agg #[.bool false, .int .i64 0]) 2 16 Try.underlying33 hi0 hz0 hz1 hz2 ?_ (Nat.succ_pos 1) vP k vs ?_ (unhide P93) _ (some ⟨W.heap.size, 0, none⟩) 1 1 (rfv (rbo, ri)) ?_ ?_ (unhide Y3) hy1 mx1 mx3 (unhide B3) ?_; any_goals (with_unfolding_all rfl)
       intro v4 w4 ho4 hc4 hat4
       obtain ⟨A4, c4, rfl⟩ := own_val ho4
       have h8 := own_chg (unhide P83) hc4 (fun k hk hs => own_own_ne (unhide P83) (unhide P93) (by decide) k hk hs)
       have hpc : Chg (fun j => v12.ownBlock = some j ∨ vP.ownBlock = some j) W w4 := (Chg.mono (unhide N3) (fun _ _ h => h.elim)).trans hc4 (fun k _ hs => .inr hs)
       have hk4 := unhide KSH _ hpc
       have e5 := hk4.2.lt
       have d4 := hk4.2.cell 3
       have g4 := hk4.2.frozen 3
       simp only [List.getElem?_toArray, List.getElem?_cons_zero, List.getElem?_cons_succ] at d4
       have HQX := hide ((unhide X3).chg hc4 (fun b hb _ hs => by have h1 := unhide L9 b hs; have h2 : b = _ := hb; omega))
       have HQB : B ≤ w4.heap.size := Nat.le_trans hB hpc.size
       have HQBa : B ≤ (w4.alloc (.cells #[.int .u64 (X0 : Int)] 26)).heap.size := by rw [size_alloc]; exact Nat.le_succ_of_le HQB
       have HQC := hide hpc
       have HQCa := hide (hpc.alloc (.cells #[.int .u64 (X0 : Int)] 26))
       have HF9 := hide ho4
       have HQ8 := hide h8
       clear ho4 hc4 hat4 h8 hpc hk4)
    | (refine step_append_rd _ ?_ (.tmp 116) (.tmp 118) 33 ?_ B 51 i0 (.agg #[.bool false, .int .i64 0]) 2 16 Try.underlying33 hi0 hz0 hz1 hz2 ?_ (Nat.succ_pos 1) vP k vs ?_ ((unhide HP9).alloc (.cells #[.bool rbo, .int .i64 ri] 51)) _ (some ⟨w3.heap.size, 0, none⟩) 1 1 (rfv (rbo, ri)) ?_ ?_ (rd_new w3 w3.heap.size 51 (rfv (rbo, ri)) rfl) hy1 mx1 mx3 (HPBa) ?_; any_goals (with_unfolding_all rfl)
       intro v4 w4 ho4 hc4 hat4
       obtain ⟨A4, c4, rfl⟩ := own_val ho4
       have h8 := own_chg ((unhide HF8).alloc (.cells #[.bool rbo, .int .i64 ri] 51)) hc4 (fun k hk hs => own_own_ne ((unhide HF8).alloc (.cells #[.bool rbo, .int .i64 ri] 51)) ((unhide HP9).alloc (.cells #[.bool rbo, .int .i64 ri] 51)) (by decide) k hk hs)
       have hpc : Chg (fun j => v12.ownBlock = some j ∨ vP.ownBlock = some j) W w4 := (unhide HPCa).trans hc4 (fun k _ hs => .inr hs)
       have hk4 := unhide KSH _ hpc
       have e5 := hk4.2.lt
       have d4 := hk4.2.cell 3
       have g4 := hk4.2.frozen 3
       simp only [List.getElem?_toArray, List.getElem?_cons_zero, List.getElem?_cons_succ] at d4
       have HF8 := hide h8
       have HF9 := hide ho4
       have HFC := hide hpc
       clear ho4 hc4 hat4 h8 hpc hk4)
    | (refine step_append_rd _ ?_ (.tmp 116) (.tmp 118) 33 ?_ B 51 i0 (.agg #[.bool false, .int .i64 0]) 2 16 Try.underlying33 hi0 hz0 hz1 hz2 ?_ (Nat.succ_pos 1) vP k vs ?_ (unhide HP9) _ (some ⟨W.heap.size + 1, 0, none⟩) 1 1 (rfv (rbo, ri)) ?_ ?_ (unhide HPY) hy1 mx1 mx3 (HPB) ?_; any_goals (with_unfolding_all rfl)
       intro v4 w4 ho4 hc4 hat4
       obtain ⟨A4, c4, rfl⟩ := own_val ho4
       have h8 := own_chg (unhide HF8) hc4 (fun k hk hs => own_own_ne (unhide HF8) (unhide HP9) (by decide) k hk hs)
       have hpc : Chg (fun j => v12.ownBlock = some j ∨ vP.ownBlock = some j) W w4 := (unhide HPC).trans hc4 (fun k _ hs => .inr hs)
       have hk4 := unhide KSH _ hpc
       have e5 := hk4.2.lt
       have d4 := hk4.2.cell 3
       have g4 := hk4.2.frozen 3
       simp only [List.getElem?_toArray, List.getElem?_cons_zero, List.getElem?_cons_succ] at d4
       have HF8 := hide h8
       have HF9 := hide ho4
       have HFC := hide hpc
       clear ho4 hc4 hat4 h8 hpc hk4)
    | (refine step_append_rd _ ?_ (.tmp 116) (.tmp 118) 33 ?_ B 51 i0 (.agg #[.bool false, .int .i64 0]) 2 16 Try.underlying33 hi0 hz0 hz1 hz2 ?_ (Nat.succ_pos 1) vP k vs ?_ (unhide HP9) _ (some ⟨W.heap.size, 0, none⟩) 1 1 (rfv (rbo, ri)) ?_ ?_ (unhide HPY) hy1 mx1 mx3 (HPB) ?_; any_goals (with_unfolding_all rfl)
       intro v4 w4 ho4 hc4 hat4
       obtain ⟨A4, c4, rfl⟩ := own_val ho4
       have h8 := own_chg (unhide HF8) hc4 (fun k hk hs => own_own_ne (unhide HF8) (unhide HP9) (by decide) k hk hs)
       have hpc : Chg (fun j => v12.ownBlock = some j ∨ vP.ownBlock = some j) W w4 := (unhide HPC).trans hc4 (fun k _ hs => .inr hs)
       have hk4 := unhide KSH _ hpc
       have e5 := hk4.2.lt
       have d4 := hk4.2.cell 3
       have g4 := hk4.2.frozen 3
       simp only [List.getElem?_toArray, List.getElem?_cons_zero, List.getElem?_cons_succ] at d4
       have HF8 := hide h8
       have HF9 := hide ho4
       have HFC := hide hpc
       clear ho4 hc4 hat4 h8 hpc hk4))
  all_goals
    refine NoPanic.normal ?_
    try dsimp only
    exact reg21_fin (unhide HX _ _ _ _ _ _ _ _ _ _ _ _) (unhide HF8) (unhide HF9) (unhide HFC) (unhide HOB) (unhide NO8) (unhide NO9)
end Go.Proofs.Ytlgkgglecgdkgaa
