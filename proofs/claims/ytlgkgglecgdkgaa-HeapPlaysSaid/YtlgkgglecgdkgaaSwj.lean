/-
  Case 0 of HeapPlays: a block.
-/
import Derived.Test.YtlgkgglecgdkgaaSwi
import Derived.Deep.CutRange
namespace Go.Proofs.Ytlgkgglecgdkgaa
open Go.RowKit
set_option maxHeartbeats 4000000
set_option maxRecDepth 1000000
theorem sw_zero (x0 x1 x2 x3 x4 x6 x10 x12 x13 x14 x15 x16 x17 x18 x19 x20 x21 x22 x23 x24 x25 x26 x27 x28 x29 x30 x31 x32 x33 x34 x35 x36 x37 x38 x39 x40 x41 x42 x43 x44 x45 x46 x47 x48 x49 x50 x51 x52 x53 x54 x55 x56 x57 x58 x59 x60 x61 x62 x63 x64 x65 x66 x67 x68 x69 x70 x71 x72 x73 x74 x75 x76 x77 x78 x79 x80 x81 x82 x83 x85 x86 x87 x88 x89 x90 x91 x92 x93 x94 x95 x96 x97 x98 x99 x100 x101 x102 x103 x104 x105 x106 x107 x108 x109 x110 x111 x112 x113 x114 x115 x116 x117 x118 x119 x120 x121 x122 x123 x124 x125 x126 x127 x128 x129 x130 x131 x132 x133 x134 x135 x136 x137 x138 x139 x140 x141 x142 x143 x144 x145 x146 x147 x148 x149 x150 x151 x152 x153 x154 x155 x156 x157 x158 x159 x160 x161 x162 x163 x164 x165 x166 x167 x168 x169 x170 x171 x172 x173 x174 x175 x176 x177 x178 x179 x180 x181 x182 x183 x184 x185 x186 x187 x188 x189 x190 x191 x192 x193 x194 x195 x196 x197 x198 x199 x200 x201 x202 x203 x204 x205 x206 x207 x208 x209 x210 x211 x212 x213 x214 x215 x216 x217 x218 x219 x220 x221 x222 x223 x224 x225 x226 x227 x228 x229 x230 x231 x232 x233 x234 x235 x236 x237 x238 x239 x240 x241 x242 x243 x244 x245 x246 x247 x248 x249 x250 x251 x252 x253 x254 x255 x256 x257 x258 x259 x260 x261 x262 x263 x264 x265 x266 x267 x268 x269 x270 x271 x272 x273 x274 x275 x276 x277 x278 x279 x280 x281 x282 x283 x284 x285 x286 x287 x288 x289 x290 x291 x292 x293 x294 x295 x296 x297 x298 x299 x300 x301 x302 x303 x304 x305 x306 x307 x308 x309 x310 x311 x312 x313 x314 x315 x316 x317 x318 x319 x320 x321 x322 x323 x324 x325 x326 x327 x328 x329 x330 v8 v9 : Value) (w0 w : World) (B n g bn bo bb hm ab j pc : Nat) (pA : Option Addr) (M : HM) (all : List ObjM) (L : List Int) (wd : Int → Nat) (rs : List Rf) (A7 : Option Addr) (c7 : Nat) (a : ActM)
    (hst : PSt w0 w B n g bn bo bb hm M all L wd rs v8 v9 A7 c7) (hal : all.length ≤ j) (hrl : rs.length ≤ j) (hj : j ≤ 60) (hab : Blk w ab 49 #[.int .i64 a.k, .int .i64 a.kind, .int .i64 a.tag, .slice pA a.parts.length pc, .string a.text, .int .i64 a.at_, .int .i64 a.by_, .int .i64 a.keep])
    (hpl : a.parts.length ≤ 20) (htl : a.text.size ≤ 300) (hints : Rd (fun _ => True) w pA (a.parts.map intl)) (hk : a.k = 0)
    (Q : Exit → Act → World → Prop) (hexit : ∀ (v8' v9' y12 y13 y14 y15 y16 y17 y18 y19 y20 y21 y22 y23 y24 y25 y26 y27 y28 y29 y30 y31 y32 y33 y85 y86 y87 y88 y89 y90 y91 y92 y93 y94 y95 y96 y97 y98 y99 y100 y101 y102 y103 y104 y105 y106 y107 y108 y109 y110 y111 y112 y113 y114 y115 y116 y117 y118 y119 y120 y121 y122 y123 y124 y125 y126 y127 y128 y129 y130 y131 y132 y133 y134 y135 y136 y137 y138 y139 y140 y141 y142 y143 y144 y145 y146 y147 y148 y149 y150 y151 y152 y153 y154 y155 y156 y157 y158 y159 y160 y161 y162 y163 y164 y165 y166 y167 y168 y169 y170 y171 y172 y173 y174 y175 y176 y177 y178 y179 y180 y181 y182 y183 y184 y185 y186 y187 y188 y189 y190 y191 y192 y193 y194 y195 y196 y197 y198 y199 y200 y201 y202 y203 y204 y205 y206 y207 y208 y209 y210 y211 y212 y213 y214 y215 y216 y217 y218 y219 y220 y221 y222 y223 y224 y225 y226 y227 y228 y229 y230 y231 y232 y233 y234 y235 y236 y237 y238 y239 y240 y241 y242 y243 y244 y245 y246 y247 y248 y249 y250 y251 y252 y253 y254 y255 y256 y257 y258 y259 y260 y261 y262 y263 y264 y265 y266 y267 y268 y269 y270 y271 y272 y273 y274 y275 y276 y277 y278 y279 y280 y281 y282 y283 y284 y285 y286 y287 y288 y289 y290 y291 y292 y293 y294 y295 y296 y297 : Value) (wx : World), SwR w0 B n g hm j v8' v9' wx → Q .normal ⟨#[x0, x1, x2, x3, x4, .pointer (some ⟨g, 0, none⟩), x6, .pointer (some ⟨hm, 0, none⟩), v8', v9', x10, .pointer (some ⟨ab, 0, none⟩), y12, y13, y14, y15, y16, y17, y18, y19, y20, y21, y22, y23, y24, y25, y26, y27, y28, y29, y30, y31, y32, y33, x34, x35, x36, x37, x38, x39, x40, x41, x42, x43, x44, x45, x46, x47, x48, x49, x50, x51, x52, x53, x54, x55, x56, x57, x58, x59, x60, x61, x62, x63, x64, x65, x66, x67, x68, x69, x70, x71, x72, x73, x74, x75, x76, x77, x78, x79, x80, x81, x82, x83, .int .i64 a.k, y85, y86, y87, y88, y89, y90, y91, y92, y93, y94, y95, y96, y97, y98, y99, y100, y101, y102, y103, y104, y105, y106, y107, y108, y109, y110, y111, y112, y113, y114, y115, y116, y117, y118, y119, y120, y121, y122, y123, y124, y125, y126, y127, y128, y129, y130, y131, y132, y133, y134, y135, y136, y137, y138, y139, y140, y141, y142, y143, y144, y145, y146, y147, y148, y149, y150, y151, y152, y153, y154, y155, y156, y157, y158, y159, y160, y161, y162, y163, y164, y165, y166, y167, y168, y169, y170, y171, y172, y173, y174, y175, y176, y177, y178, y179, y180, y181, y182, y183, y184, y185, y186, y187, y188, y189, y190, y191, y192, y193, y194, y195, y196, y197, y198, y199, y200, y201, y202, y203, y204, y205, y206, y207, y208, y209, y210, y211, y212, y213, y214, y215, y216, y217, y218, y219, y220, y221, y222, y223, y224, y225, y226, y227, y228, y229, y230, y231, y232, y233, y234, y235, y236, y237, y238, y239, y240, y241, y242, y243, y244, y245, y246, y247, y248, y249, y250, y251, y252, y253, y254, y255, y256, y257, y258, y259, y260, y261, y262, y263, y264, y265, y266, y267, y268, y269, y270, y271, y272, y273, y274, y275, y276, y277, y278, y279, y280, y281, y282, y283, y284, y285, y286, y287, y288, y289, y290, y291, y292, y293, y294, y295, y296, y297, x298, x299, x300, x301, x302, x303, x304, x305, x306, x307, x308, x309, x310, x311, x312, x313, x314, x315, x316, x317, x318, x319, x320, x321, x322, x323, x324, x325, x326, x327, x328, x329, x330], []⟩ wx) :
    Code.wp Try.prog swCode Q ⟨#[x0, x1, x2, x3, x4, .pointer (some ⟨g, 0, none⟩), x6, .pointer (some ⟨hm, 0, none⟩), v8, v9, x10, .pointer (some ⟨ab, 0, none⟩), x12, x13, x14, x15, x16, x17, x18, x19, x20, x21, x22, x23, x24, x25, x26, x27, x28, x29, x30, x31, x32, x33, x34, x35, x36, x37, x38, x39, x40, x41, x42, x43, x44, x45, x46, x47, x48, x49, x50, x51, x52, x53, x54, x55, x56, x57, x58, x59, x60, x61, x62, x63, x64, x65, x66, x67, x68, x69, x70, x71, x72, x73, x74, x75, x76, x77, x78, x79, x80, x81, x82, x83, .int .i64 a.k, x85, x86, x87, x88, x89, x90, x91, x92, x93, x94, x95, x96, x97, x98, x99, x100, x101, x102, x103, x104, x105, x106, x107, x108, x109, x110, x111, x112, x113, x114, x115, x116, x117, x118, x119, x120, x121, x122, x123, x124, x125, x126, x127, x128, x129, x130, x131, x132, x133, x134, x135, x136, x137, x138, x139, x140, x141, x142, x143, x144, x145, x146, x147, x148, x149, x150, x151, x152, x153, x154, x155, x156, x157, x158, x159, x160, x161, x162, x163, x164, x165, x166, x167, x168, x169, x170, x171, x172, x173, x174, x175, x176, x177, x178, x179, x180, x181, x182, x183, x184, x185, x186, x187, x188, x189, x190, x191, x192, x193, x194, x195, x196, x197, x198, x199, x200, x201, x202, x203, x204, x205, x206, x207, x208, x209, x210, x211, x212, x213, x214, x215, x216, x217, x218, x219, x220, x221, x222, x223, x224, x225, x226, x227, x228, x229, x230, x231, x232, x233, x234, x235, x236, x237, x238, x239, x240, x241, x242, x243, x244, x245, x246, x247, x248, x249, x250, x251, x252, x253, x254, x255, x256, x257, x258, x259, x260, x261, x262, x263, x264, x265, x266, x267, x268, x269, x270, x271, x272, x273, x274, x275, x276, x277, x278, x279, x280, x281, x282, x283, x284, x285, x286, x287, x288, x289, x290, x291, x292, x293, x294, x295, x296, x297, x298, x299, x300, x301, x302, x303, x304, x305, x306, x307, x308, x309, x310, x311, x312, x313, x314, x315, x316, x317, x318, x319, x320, x321, x322, x323, x324, x325, x326, x327, x328, x329, x330], []⟩ w := by
  have e0 : (a.k == 0) = true := by rw [hk]; rfl
  obtain ⟨A8, c8, rfl⟩ := own_val hst.ws
  obtain ⟨A9, c9, rfl⟩ := own_val hst.rf
  have hcl := fun n => pickR_cl hst.cl n
  have HST := hide hst
  have HX := hide hexit
  have HBA := hide hab
  have HIN := hide hints
  have HCL := hide hcl
  have hbb := hst.bb_lt
  have hml := hst.m.lt
  have hhm := hst.hm_
  clear hst hexit hk hab hints hcl
  conv => arg 2; whnf
  go_upto_region 16 with fail
  refine reg16 _ _ _ _ _ _ _ _ _ _ _ _ _ _ _ _ _ _ _ _ _ _ _ _ _ _ _ _ _ _ _ _ _ _ _ _ _ _ _ _ _ _ _ _ _ _ _ _ _ _ _ _ _ _ _ _ _ _ _ _ _ _ _ _ _ _ _ _ _ _ _ _ _ _ _ _ _ _ _ _ _ _ _ _ _ _ _ _ _ _ _ _ _ _ _ _ _ _ _ _ _ _ _ _ _ _ _ _ _ _ _ _ _ _ _ _ _ _ _ _ _ _ _ _ _ _ _ _ _ _ _ _ _ _ _ _ _ _ _ _ _ _ _ _ _ _ _ _ _ _ _ _ _ _ _ _ _ _ _ _ _ _ _ _ _ _ _ _ _ _ _ _ _ _ _ _ _ _ _ _ _ _ _ _ _ _ _ _ _ _ _ _ _ _ _ _ _ _ _ _ _ _ _ _ _ _ _ _ _ _ _ _ _ _ _ _ _ _ _ _ _ _ _ _ _ _ _ _ _ _ _ _ _ _ _ _ _ _ _ _ _ _ _ _ _ _ _ _ _ _ _ _ _ _ _ _ _ _ _ _ _ _ _ _ _ _ _ _ _ _ _ _ _ _ _ _ _ _ _ _ _ _ _ _ _ _ _ _ _ _ _ _ _ _ _ _ _ _ _ _ _ _ _ _ _ _ _ _ _ _ _ _ _ _ _ _ _ _ _ _ _ _ _ _ _ _ _ _ _ _ _ ab pc pA a (unhide HBA) _ ?_
  intro pb ob z87 z88 z89 z90 z91 z92 w5 hp5 hol hob5 hc5
  have HP5 := hide hp5
  have HOB5 := hide hob5
  have HC5 := hide hc5
  clear hp5 hob5 hc5
  rename_i K0 hK0
  refine hK0 _ _ ?_
  refine wp_seq_k (fun K hK => ?_)
  have HK := hide hK
  clear hK hK0
  go_wp2_with fail
  go_loopw [12, 14] (fun p i wR => ∃ (k : Nat) (vP : Value), i = .int .i64 k ∧ k ≤ a.parts.length ∧ wR.ownsRow w.heap.size 26 1 p k ((((a.parts.take k).map (pickR rs)).map (encR wd)).map wv) ∧ wR.ownsRow w.heap.size 51 2 vP k (((a.parts.take k).map (pickR rs)).flatMap rfv) ∧ Blk wR ob 35 #[.int .i64 a.kind, .int .i64 a.tag, .string ByteArray.empty, vP] ∧ Chg (fun _ => False) w wR) (fun _ i _ => a.parts.length - (intOf i).toNat)
  case atStart => exact ⟨0, .slice none 0 0, rfl, Nat.zero_le _, unhide HP5, ⟨by simp, .inl ⟨rfl, rfl⟩⟩, unhide HOB5, unhide HC5⟩
  case round =>
    obtain ⟨wq, rfl⟩ : ∃ wq : World, wq = wr := ⟨_, rfl⟩
    obtain ⟨k, vP, rfl, hk, hp, hq, hob, hc⟩ := hrel
    have hab1 := (unhide HBA).chg hc id
    have d3 := hab1.cell 3
    simp only [List.getElem?_toArray, List.getElem?_cons_zero, List.getElem?_cons_succ] at d3
    have hst1 := (unhide HST).old hc
    by_cases hkl : k < a.parts.length
    · have hrd := (unhide HIN).chg hc (fun _ _ _ => id)
      obtain ⟨xb, xo, rfl, hxb, hcc⟩ := hrd.flat (by intro e; have := congrArg List.length e; rw [List.length_map, List.length_nil] at this; omega)
      have hpk := hcc k _ (by rw [List.getElem?_map, List.getElem?_eq_getElem hkl]; rfl)
      have htake : a.parts.take (k + 1) = a.parts.take k ++ [a.parts[k]] := by rw [List.take_add_one, List.getElem?_eq_getElem hkl]; rfl
      have hpick := pick_sim a.parts[k] rs wd A8 A9 c8 c9 _ _ wq (by omega) (own_rd hst1.ws (by omega)) (own_rd hst1.rf (by omega))
      generalize a.parts[k] = x at *
      unfold intl at hpk
      have HTK := hide htake
      have HPI := hide hpick
      have HP := hide hp
      have HQ := hide hq
      have HOB := hide hob
      have HC := hide hc
      have hsz := hc.size
      generalize hrr : pickR rs x = r at *
      have HRR := hide hrr
      obtain ⟨rb, ri⟩ := r
      clear hcc hrd htake hpick hp hq hob hc hst1 hab1 hrr
      try dsimp only
      go_wp2_with fail
      refine (unhide HPI).mono ?_
      rintro e w6 ⟨rfl, hc6⟩
      have HC6 := hide hc6
      have hs6 := hc6.size
      clear hc6 HPI
      try dsimp only
      go_upto_region 21 with fail
      refine reg21 _ _ _ _ _ _ _ _ _ _ _ _ _ _ _ _ _ _ _ _ _ _ _ _ _ _ _ _ _ _ _ _ _ _ _ _ _ _ _ _ _ _ _ _ _ _ _ _ _ _ _ _ _ _ _ _ _ _ _ _ _ _ _ _ _ _ _ _ _ _ _ _ _ _ _ _ _ _ _ _ _ _ _ _ _ _ _ _ _ _ _ _ _ _ _ _ _ _ _ _ _ _ _ _ _ _ _ _ _ _ _ _ _ _ _ _ _ _ _ _ _ _ _ _ _ _ _ _ _ _ _ _ _ _ _ _ _ _ _ _ _ _ _ _ _ _ _ _ _ _ _ _ _ _ _ _ _ _ _ _ _ _ _ _ _ _ _ _ _ _ _ _ _ _ _ _ _ _ _ _ _ _ _ _ _ _ _ _ _ _ _ _ _ _ _ _ _ _ _ _ _ _ _ _ _ _ _ _ _ _ _ _ _ _ _ _ _ _ _ _ _ _ _ _ _ _ _ _ _ _ _ _ _ _ _ _ _ _ _ _ _ _ _ _ _ _ _ _ _ _ _ _ _ _ _ _ _ _ _ _ _ _ _ _ _ _ _ _ _ _ _ _ _ _ _ _ _ _ _ _ _ _ _ _ _ _ _ _ _ _ _ _ _ _ _ _ _ _ _ _ _ _ _ _ _ _ _ _ _ _ _ _ _ _ _ _ _ _ _ _ _ _ _ _ _ _ _ _ vP _ _ _ _ w.heap.size ob w6.heap.size k (encR wd (rb, ri)) rb ri ((((a.parts.take k).map (pickR rs)).map (encR wd)).map wv) (((a.parts.take k).map (pickR rs)).flatMap rfv) (by omega) (by rw [size_alloc]; omega) ((own_chg (unhide HP) (unhide HC6) (fun _ _ => id)).alloc _) ((own_chg (unhide HQ) (unhide HC6) (fun _ _ => id)).alloc _) (((unhide HOB).chg (unhide HC6) id).alloc _) (Blk.new w6 51 _) (fun e => by have := ((unhide HQ).lt _ e).2; omega) _ ?_
      intro v12' v4 z111 z112 z113 z114 z115 z116 z117 z118 z119 z120 w7 hp7 hq7 hob7 hc7
      have HP7 := hide hp7
      have HQ7 := hide hq7
      have HOB7 := hide hob7
      have HC7 := hide hc7
      clear hp7 hq7 hob7 hc7
      go_wp2_with fail
      go_roundw
      case rel =>
        have hb := fun b => (unhide HP).lt b
        have hb2 := fun b => (unhide HQ).lt b
        refine ⟨k + 1, v4, by go_num, by omega, ?_, ?_, unhide HOB7, ((unhide HC).trans' (unhide HC6) |>.alloc _).trans (unhide HC7) (fun i hi hs => ?_)⟩
        · rw [unhide HTK, List.map_append, List.map_append, List.map_append]
          simp only [List.map_cons, List.map_nil]
          rw [unhide HRR]
          exact unhide HP7
        · rw [unhide HTK, List.map_append, List.flatMap_append]
          simp only [List.map_cons, List.map_nil, List.flatMap_cons, List.flatMap_nil, List.append_nil]
          rw [unhide HRR]
          exact unhide HQ7
        · rcases hs with e | e | e
          · subst e
            omega
          · have := (hb i e).1; omega
          · have := (hb2 i e).1; omega
      case measure => simp [intOf]; omega
    · obtain rfl : k = a.parts.length := by omega
      rw [List.take_length] at hp hq
      have hpsl : (a.parts.map (pickR rs)).length = a.parts.length := List.length_map _
      have HPS := hide hpsl
      have HP := hide hp
      have HQ := hide hq
      have HOB := hide hob
      have HST1 := hide hst1
      have HAB1 := hide hab1
      have hsz := hc.size
      have hl8 : ∀ i, (Value.slice A8 rs.length c8).ownBlock = some i → i < w.heap.size := fun i e => ((unhide HST).ws.lt i e).2
      have hl9 : ∀ i, (Value.slice A9 rs.length c9).ownBlock = some i → i < w.heap.size := fun i e => ((unhide HST).rf.lt i e).2
      have HL8 := hide hl8
      have HL9 := hide hl9
      have hbw : B ≤ w.heap.size := by omega
      clear hp hq hob hc hst1 hab1 hpsl hl8 hl9
      by_cases hok : okKT a.kind a.tag = true ∧ M.now.length + (a.parts.map (pickR rs)).length + 1 ≤ M.size
      · have HOK := hide hok
        clear hok
        go_wp2_with fail
        refine unhide HK _ _ ?_
        refine tail_yes _ _ _ _ _ _ _ _ _ _ _ _ _ _ _ _ _ _ _ _ _ _ _ _ _ _ _ _ _ _ _ _ _ _ _ _ _ _ _ _ _ _ _ _ _ _ _ _ _ _ _ _ _ _ _ _ _ _ _ _ _ _ _ _ _ _ _ _ _ _ _ _ _ _ _ _ _ _ _ _ _ _ _ _ _ _ _ _ _ _ _ _ _ _ _ _ _ _ _ _ _ _ _ _ _ _ _ _ _ _ _ _ _ _ _ _ _ _ _ _ _ _ _ _ _ _ _ _ _ _ _ _ _ _ _ _ _ _ _ _ _ _ _ _ _ _ _ _ _ _ _ _ _ _ _ _ _ _ _ _ _ _ _ _ _ _ _ _ _ _ _ _ _ _ _ _ _ _ _ _ _ _ _ _ _ _ _ _ _ _ _ _ _ _ _ _ _ _ _ _ _ _ _ _ _ _ _ _ _ _ _ _ _ _ _ _ _ _ _ _ _ _ _ _ _ _ _ _ _ _ _ _ _ _ _ _ _ _ _ _ _ _ _ _ _ _ _ _ _ _ _ _ _ _ _ _ _ _ _ _ _ _ _ _ _ _ _ _ _ _ _ _ _ _ _ _ _ _ _ _ _ _ _ _ _ _ _ _ _ _ _ _ _ _ _ _ _ _ _ _ _ _ _ _ _ _ _ _ _ _ _ _ _ _ _ _ _ _ _ _ _ _ _ _ _ _ _ vP w0 wq B w.heap.size n g bn bo bb hm ab ob j pc pA M all L wd rs (a.parts.map (pickR rs)) A7 c7 a (unhide HST1) hal hrl hj (unhide HAB1) (unhide HOB) ⟨hbw, hbb, hml⟩ (unhide HL8) (unhide HL9) (by rw [unhide HPS]; exact unhide HP) (by rw [unhide HPS]; exact unhide HQ) (by rw [unhide HPS]; exact hpl) (fun r hr => by obtain ⟨x, _, rfl⟩ := List.mem_map.1 hr; exact unhide HCL x) (unhide HOK).1 (unhide HOK).2 _ ?_
        intro v8' v9' z17 z18 z19 z20 z21 z121 z122 z123 z124 z125 z126 z127 z128 z129 z130 z131 z132 z133 z134 z135 z136 z137 z138 z139 z140 z141 z142 z143 z144 z145 z146 z147 z148 z149 z150 z151 z152 z153 z154 z155 z156 z157 z158 z159 z160 z161 z162 z163 z164 z165 z166 z167 z168 wx hR
        exact unhide HX _ _ _ _ _ _ _ _ _ _ _ _ _ _ _ _ _ _ _ _ _ _ _ _ _ _ _ _ _ _ _ _ _ _ _ _ _ _ _ _ _ _ _ _ _ _ _ _ _ _ _ _ _ _ _ _ _ _ _ _ _ _ _ _ _ _ _ _ _ _ _ _ _ _ _ _ _ _ _ _ _ _ _ _ _ _ _ _ _ _ _ _ _ _ _ _ _ _ _ _ _ _ _ _ _ _ _ _ _ _ _ _ _ _ _ _ _ _ _ _ _ _ _ _ _ _ _ _ _ _ _ _ _ _ _ _ _ _ _ _ _ _ _ _ _ _ _ _ _ _ _ _ _ _ _ _ _ _ _ _ _ _ _ _ _ _ _ _ _ _ _ _ _ _ _ _ _ _ _ _ _ _ _ _ _ _ _ _ _ _ _ _ _ _ _ _ _ _ _ _ _ _ _ _ _ _ _ _ _ _ _ _ _ _ _ _ _ _ _ _ _ _ _ _ _ _ _ _ _ _ _ _ _ _ _ _ _ _ hR
      · have HOK := hide hok
        clear hok
        go_wp2_with fail
        refine unhide HK _ _ ?_
        refine tail_no _ _ _ _ _ _ _ _ _ _ _ _ _ _ _ _ _ _ _ _ _ _ _ _ _ _ _ _ _ _ _ _ _ _ _ _ _ _ _ _ _ _ _ _ _ _ _ _ _ _ _ _ _ _ _ _ _ _ _ _ _ _ _ _ _ _ _ _ _ _ _ _ _ _ _ _ _ _ _ _ _ _ _ _ _ _ _ _ _ _ _ _ _ _ _ _ _ _ _ _ _ _ _ _ _ _ _ _ _ _ _ _ _ _ _ _ _ _ _ _ _ _ _ _ _ _ _ _ _ _ _ _ _ _ _ _ _ _ _ _ _ _ _ _ _ _ _ _ _ _ _ _ _ _ _ _ _ _ _ _ _ _ _ _ _ _ _ _ _ _ _ _ _ _ _ _ _ _ _ _ _ _ _ _ _ _ _ _ _ _ _ _ _ _ _ _ _ _ _ _ _ _ _ _ _ _ _ _ _ _ _ _ _ _ _ _ _ _ _ _ _ _ _ _ _ _ _ _ _ _ _ _ _ _ _ _ _ _ _ _ _ _ _ _ _ _ _ _ _ _ _ _ _ _ _ _ _ _ _ _ _ _ _ _ _ _ _ _ _ _ _ _ _ _ _ _ _ _ _ _ _ _ _ _ _ _ _ _ _ _ _ _ _ _ _ _ _ _ _ _ _ _ _ _ _ _ _ _ _ _ _ _ _ _ _ _ _ _ _ _ _ _ _ _ _ _ _ vP w0 wq B w.heap.size n g bn bo bb hm ab ob j pc pA M all L wd rs (a.parts.map (pickR rs)) A7 c7 a (unhide HST1) hal hrl hj (unhide HAB1) (unhide HOB) ⟨hbw, hbb, hml⟩ (unhide HL8) (unhide HL9) (by rw [unhide HPS]; exact unhide HP) (by rw [unhide HPS]; exact unhide HQ) (by rw [unhide HPS]; exact hpl) (fun r hr => by obtain ⟨x, _, rfl⟩ := List.mem_map.1 hr; exact unhide HCL x) (unhide HOK) _ ?_
        intro v8' v9' z17 z18 z19 z20 z21 z121 z122 z123 z124 z125 z126 z127 z128 z129 z130 z131 z132 z133 z134 z135 z136 z137 z138 z139 z140 z141 z142 z143 z144 z145 z146 z147 z148 z149 z150 z151 z152 z153 z154 z155 z156 z157 z158 z159 z160 z161 z162 z163 z164 z165 z166 z167 z168 wx hR
        exact unhide HX _ _ _ _ _ _ _ _ _ _ _ _ _ _ _ _ _ _ _ _ _ _ _ _ _ _ _ _ _ _ _ _ _ _ _ _ _ _ _ _ _ _ _ _ _ _ _ _ _ _ _ _ _ _ _ _ _ _ _ _ _ _ _ _ _ _ _ _ _ _ _ _ _ _ _ _ _ _ _ _ _ _ _ _ _ _ _ _ _ _ _ _ _ _ _ _ _ _ _ _ _ _ _ _ _ _ _ _ _ _ _ _ _ _ _ _ _ _ _ _ _ _ _ _ _ _ _ _ _ _ _ _ _ _ _ _ _ _ _ _ _ _ _ _ _ _ _ _ _ _ _ _ _ _ _ _ _ _ _ _ _ _ _ _ _ _ _ _ _ _ _ _ _ _ _ _ _ _ _ _ _ _ _ _ _ _ _ _ _ _ _ _ _ _ _ _ _ _ _ _ _ _ _ _ _ _ _ _ _ _ _ _ _ _ _ _ _ _ _ _ _ _ _ _ _ _ _ _ _ _ _ _ _ _ _ _ _ _ hR
end Go.Proofs.Ytlgkgglecgdkgaa
