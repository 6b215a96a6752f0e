/-
  Layer 19: where an instruction is done: 17.
-/
import Derived.Test.YtejkaalhjocmgaaDoorXa
namespace Go.Proofs.YtejkaalhjocmgaaDoor
open Go.RowKit
set_option maxHeartbeats 1000000
set_option maxRecDepth 1000000
set_option maxHeartbeats 4000000
theorem own_base {w : World} {base base' : Nat} {e : TypeId} {size n : Nat} {v : Value} {xs : List Value} (h : w.ownsRow base e size v n xs) (hb : base' ≤ base) : w.ownsRow base' e size v n xs := by
  obtain ⟨h1, h2⟩ := h
  refine ⟨h1, ?_⟩
  rcases h2 with h2 | ⟨g, cap, cur, hv, hg, hh, r⟩
  · exact Or.inl h2
  · exact Or.inr ⟨g, cap, cur, hv, by omega, hh, r⟩
/-- It comes, with tries of the call's own. -/
theorem come_own {w w2 W : World} {base c b mp n L : Nat} {pv v5 : Value} {cA : Option Addr} {cc : Nat} {C1 : PC} (hco : COut w w2 base c b mp n L pv (.slice cA n cc) v5 C1) (hW : Chg (fun _ => False) w2 W) (s : PSt) (v4 : Value) (k : Nat) (x : Bool) (ho : W.ownsRow w2.heap.size 3 1 v4 k (s.tries.map intl)) (hk : k = s.tries.length) (hn : n ≤ 1000) (t : Nat) (ht : t ≤ 100000) (hl : s.tries.length ≤ 1000) (hwk : C1.work.length ≤ 100000) :
    Calls Tryd.prog 32 #[.pointer (some ⟨c, 0, none⟩), .int .i64 (t : Int), .agg #[.int .i64 s.of, .int .i64 s.height, v4, .bool x]] W fun e w' => e = .returned (.tuple #[]) ∧ COut w w' base c b mp n L pv (.slice cA n cc) v5 (C1.come n t s) := by
  obtain ⟨v5', f', cs', h1, h2, h3⟩ := hco
  have hlt := fun b e => (ho.lt b e)
  have hm := h1.old hW
  have hr : RdI (TT W c b mp v5') W v4 s.tries := (RdI.of_own ho hk).mono (fun b' hb => by
    obtain ⟨e, hge⟩ := hb
    have hl2 := (ho.lt _ e).2
    refine ⟨hl2, fun e => ?_, fun e => ?_, fun e => ?_, fun e => ?_⟩
    · have := h1.ck.lt; omega
    · have := h1.ats.blk.lt; omega
    · obtain ⟨N, _, hm⟩ := h1.mp_; have := hm.lt; omega
    · have := (h1.wk.lt _ e).2; omega)
  exact (come_any hm t s v4 x (by omega) (by omega) hr hl hwk).mono (fun e w' hh => ⟨hh.1, (hh.2.pre hW).go_on h2 h3⟩)
theorem do_17 (x3 x9 x10 x11 x12 x13 x14 x15 x16 x17 x18 x19 x20 x21 x22 x23 x24 x25 x26 x27 x28 x29 x30 x31 x32 x33 x34 x35 x36 x37 x38 x39 x40 x42 x43 x44 x45 x46 x47 x48 x49 x50 x51 x52 x53 x54 x55 x56 x57 x58 x59 x60 x61 x62 x63 x64 x65 x66 x67 x68 x69 x70 x71 x72 x73 x74 x75 x76 x77 x78 x79 x80 x81 x82 x83 x84 x85 x86 x87 x88 x89 x90 x91 x92 x93 x94 x95 x96 x97 x98 x99 x100 x101 x102 x103 x104 x105 x106 x107 x108 x109 x110 x111 x112 x113 x114 x115 x116 x117 x118 x119 x120 x121 x122 x123 x124 x125 x126 x127 x128 x129 x130 x131 x132 x133 x134 x135 x136 x137 x138 x139 x140 x141 x142 x143 x144 x145 x146 x147 x148 x149 x150 x151 x152 x153 x154 x155 x156 x157 x158 x159 x160 x161 x162 x163 x164 x165 x166 x167 x168 x169 x170 x171 x172 x173 x174 x175 x176 x177 x178 x179 x180 x181 x182 x183 x184 x185 x186 x187 x188 x189 x190 x191 x192 x193 x194 x195 x196 x197 x198 x199 x200 x201 x202 x203 x204 x205 x206 x207 x208 x209 x210 x211 x212 x213 x214 x215 x216 x217 x218 x219 x220 x221 x222 x223 x224 x225 x226 x227 x228 x229 x230 x231 x232 x233 x234 x235 x236 x237 x238 x239 x240 x241 x242 x243 x244 x245 x246 x247 x248 x249 x250 x251 x252 x253 x254 x255 x256 x257 x258 x259 x260 x261 x262 x263 x264 x265 x266 x267 x268 x269 x270 x271 x272 x273 x274 x275 x276 x277 x278 x279 x280 x281 x282 x283 x284 x285 x286 x287 x288 x289 x290 x291 x292 x293 x294 x295 x296 x297 x298 x299 x300 x301 x302 x303 x304 x305 x306 x307 x308 x309 x310 x311 x312 x313 x314 x315 x316 x317 x318 x319 x320 : Value) (w : World) (base c b mp n L : Nat) (m : Im) (pA cA : Option Addr) (pc cc : Nat) (v5 : Value) (f : I64 → Option Int) (cs : Array Value) (C : PC) (at_ : Nat) (s : PSt) (tv : Value) (cb ib sb fb : Nat) (ia ibv : Int)
    (h : DoSt w base c b mp n L m pA cA pc cc v5 f cs C at_ s tv cb ib sb fb) (hi : insAt m at_ = ⟨17, ia, ibv⟩) 
    (Q : Exit → Act → World → Prop) (hexit : ∀ (tmps : Array Value) (w' : World), COut w w' base c b mp n (L + 1) (.slice pA m.pool.length pc) (.slice cA n cc) v5 (C.act conB m at_ s) → Q .normal ⟨tmps, []⟩ w') :
    Code.wp Tryd.prog doC Q ⟨#[.pointer (some ⟨c, 0, none⟩), .int .i64 (at_ : Int), .pointer (some ⟨cb, 0, none⟩), x3, .pointer (some ⟨ib, 0, none⟩), .pointer (some ⟨sb, 0, none⟩), .pointer (some ⟨fb, 0, none⟩), .bool (s.of != -1), .func (.func 45) #[] #[.pointer (some ⟨sb, 0, none⟩), .pointer (some ⟨fb, 0, none⟩), .pointer (some ⟨cb, 0, none⟩)], x9, x10, x11, x12, x13, x14, x15, x16, x17, x18, x19, x20, x21, x22, x23, x24, x25, x26, x27, x28, x29, x30, x31, x32, x33, x34, x35, x36, x37, x38, x39, x40, .int .i64 17, x42, x43, x44, x45, x46, x47, x48, x49, x50, x51, x52, x53, x54, x55, x56, x57, x58, x59, x60, x61, x62, x63, x64, x65, x66, x67, x68, x69, x70, x71, x72, x73, x74, x75, x76, x77, x78, x79, x80, x81, x82, x83, x84, x85, x86, x87, x88, x89, x90, x91, x92, x93, x94, x95, x96, x97, x98, x99, x100, x101, x102, x103, x104, x105, x106, x107, x108, x109, x110, x111, x112, x113, x114, x115, x116, x117, x118, x119, x120, x121, x122, x123, x124, x125, x126, x127, x128, x129, x130, x131, x132, x133, x134, x135, x136, x137, x138, x139, x140, x141, x142, x143, x144, x145, x146, x147, x148, x149, x150, x151, x152, x153, x154, x155, x156, x157, x158, x159, x160, x161, x162, x163, x164, x165, x166, x167, x168, x169, x170, x171, x172, x173, x174, x175, x176, x177, x178, x179, x180, x181, x182, x183, x184, x185, x186, x187, x188, x189, x190, x191, x192, x193, x194, x195, x196, x197, x198, x199, x200, x201, x202, x203, x204, x205, x206, x207, x208, x209, x210, x211, x212, x213, x214, x215, x216, x217, x218, x219, x220, x221, x222, x223, x224, x225, x226, x227, x228, x229, x230, x231, x232, x233, x234, x235, x236, x237, x238, x239, x240, x241, x242, x243, x244, x245, x246, x247, x248, x249, x250, x251, x252, x253, x254, x255, x256, x257, x258, x259, x260, x261, x262, x263, x264, x265, x266, x267, x268, x269, x270, x271, x272, x273, x274, x275, x276, x277, x278, x279, x280, x281, x282, x283, x284, x285, x286, x287, x288, x289, x290, x291, x292, x293, x294, x295, x296, x297, x298, x299, x300, x301, x302, x303, x304, x305, x306, x307, x308, x309, x310, x311, x312, x313, x314, x315, x316, x317, x318, x319, x320], []⟩ w := by
  obtain ⟨ia, rfl⟩ := Int.eq_ofNat_of_zero_le (insAt_a h hi)
  have hok := insAt_ok h.ok (by have := h.at_lt; have := h.ncode; omega : at_ < m.code.length)
  rw [hi] at hok
  dsimp only at hok
  have hAct : C.act conB m at_ s = (C.step n s (floorT s.tries) 0 1 true [ia]).come n (at_ + 1) ⟨s.of, s.height, s.tries ++ [s.height]⟩ := by
    have hn := h.ncode
    unfold PC.act
    rw [hi, hn]
    rfl
  have i0 := h.ibB.cell 0
  have i1 := h.ibB.cell 1
  have i2 := h.ibB.cell 2
  have s0 := h.sbB.cell 0
  have s1 := h.sbB.cell 1
  have s2 := h.sbB.cell 2
  have c0 := h.cbB.cell 0
  have k0 := h.mem.ck.cell 0
  have k3 := h.mem.ck.cell 3
  rw [hi] at i0 i1 i2
  simp only [List.getElem?_toArray, List.getElem?_cons_zero, List.getElem?_cons_succ] at i0 i1 i2 s0 s1 s2 c0 k0 k3
  have hat := h.at_lt
  have hn_ := h.n_
  have hht := h.ht
  have hpn := h.pn
  have htrl := h.trl
  obtain ⟨tA, tcp, htv⟩ := h.tr.val
  have htvv := htv
  rw [htv] at s2
  rw [hAct] at hexit
  have H := hide h
  have HX := hide hexit
  clear h hexit hAct htv
  have HS := hide ((unhide H).step 0 1 true [ia] (some ⟨w.heap.size, 0, none⟩) 1 (w.alloc (.cells ([ia].map (fun t : Nat => intl (t : Int))).toArray 3)) ((Chg.refl _ w).alloc _) (tos_new (unhide H).mem [ia] (by simp) w (Chg.refl _ w)) (by simp <;> omega) (by simp) (by omega))
  have hcl := (unhide H).cbB.lt
  have hil := (unhide H).ibB.lt
  have hkl := (unhide H).mem.ck.lt
  have hsl := (unhide H).sbB.lt
  have hw1 : IntKind.i64.wrap ((at_ : Int) + 1) = (at_ : Int) + 1 := IntWalk.i64_in _ (by omega)
  have hsl := (unhide H).sbB.lt
  have hwk2 := (unhide H).wk_
  have hsw := step_wl n s (floorT s.tries) 0 1 true [ia] C
  rw [List.length_singleton] at hsw
  have HCW := hide (show (C.step n s (floorT s.tries) 0 1 true [ia]).work.length ≤ 100000 by omega)
  clear hsw
  generalize hC1 : C.step n s (floorT s.tries) 0 1 true [ia] = C1 at *
  obtain ⟨i0_, hi0, hz0, hz1, hz2⟩ := info_parts info3
  have mx1 : s.tries.length + 1 ≤ maxLen := by simp only [maxLen]; omega
  have mx2 : (s.tries.length + 1) * 8 ≤ 140737488355328 := by omega
  have ho1 : ∀ u ∈ [intl s.height], u.oneCell' = true := by intro u hu; simp at hu; subst hu; rfl
  conv => arg 2; whnf
  go_upto_region 48 with (go_at_call 45; refine (unhide HS).mono ?_; rintro e w2 ⟨rfl, hco⟩; have HC2 := hide hco; clear hco)
  obtain ⟨k1, k2, k3, k4⟩ := (unhide H).after (unhide HC2)
  have j0 := k2.cell 0
  have t0 := k4.cell 0
  have t1 := k4.cell 1
  have t2 := k4.cell 2
  simp only [List.getElem?_toArray, List.getElem?_cons_zero, List.getElem?_cons_succ] at j0 t0 t1 t2
  rw [htvv] at t2
  have HK4 := hide k4
  have HK2 := hide k2
  have HTR := hide (show ∀ W, Chg (fun _ => False) w2 W → Calls Tryd.prog 47 #[.slice tA s.tries.length tcp] W fun e w' => ∃ v', e = .returned v' ∧ w'.ownsRow w2.heap.size 3 1 v' s.tries.length (s.tries.map intl) ∧ Chg (fun _ => False) w2 w' ∧ Chg (fun _ => False) W w' from fun W hW => by
    obtain ⟨v5', f', cs', h1, h2, h3⟩ := unhide HC2
    have hr := ((unhide H).tr.chg h2 (fun t ht _ => tt_not ht)).chg hW (fun _ _ _ => id)
    rw [htvv] at hr
    refine (clone_any hr (by omega)).mono (fun e w' ⟨v', e1, e2, e3⟩ => ⟨v', e1, own_base e2 hW.size, hW.trans' (Chg.of_below e3 _), Chg.of_below e3 _⟩))
  have HCM := hide (fun (W : World) (v4 : Value) (hW : Chg (fun _ => False) w2 W) (ho : W.ownsRow w2.heap.size 3 1 v4 (s.tries.length + 1) (s.tries.map intl ++ [intl s.height])) => come_own (unhide HC2) hW ⟨s.of, s.height, s.tries ++ [s.height]⟩ v4 (s.tries.length + 1) false (by dsimp only; rw [List.map_append]; exact ho) (by simp) hn_ (at_ + 1) (by omega) (by simp; omega) (unhide HCW))
  have HRA := hide (fun (W : World) => rd_new W W.heap.size 3 [intl s.height] rfl)
  have HRB := hide (fun (W : World) (hW : Chg (fun _ => False) (w2.alloc (.cells #[.int .i64 s.height] 3)).drew W) => Rd.chg (T := (· = w2.heap.size)) (Rd_drew (rd_new w2 w2.heap.size 3 [intl s.height] rfl)) hW (fun _ _ _ => id))
  have hcl2 := k2.lt
  have hsl2 := k4.lt
  have hwp : ((at_ + 1 : Nat) : Int) = (at_ : Int) + 1 := by omega
  rw [hwp] at HCM
  have HTV := hide htvv
  clear k1 k2 k3 k4 hwp htvv hC1 s0 s1 s2 c0 i0 i1 i2 k0
  refine wp_region_noPanic ?_
  go_region_held3 (fun W' => W'.cell? ⟨sb, 0, none⟩ = some (.int .i64 s.of) ∧ W'.cell? ⟨sb, 1, none⟩ = some (.int .i64 s.height) ∧ W'.cell? ⟨sb, 2, none⟩ = some (.slice tA s.tries.length tcp) ∧ W'.cell? ⟨cb, 0, none⟩ = some (.pointer (some ⟨c, 0, none⟩))) (first | exact unhide HKL | exact unhide HKM | exact unhide HKK | go_keep) (first
    | (go_at_call 47; (first | refine (unhide HTR _ (Chg.refl _ w2).drew).mono ?_ | refine (unhide HTR _ ((Chg.refl _ w2).alloc _).drew).mono ?_); rintro e w3 ⟨v3, rfl, ho, hch, hch2⟩; have HKK := hide (show w3.cell? ⟨sb, 0, none⟩ = some (.int .i64 s.of) ∧ w3.cell? ⟨sb, 1, none⟩ = some (.int .i64 s.height) ∧ w3.cell? ⟨sb, 2, none⟩ = some (.slice tA s.tries.length tcp) ∧ w3.cell? ⟨cb, 0, none⟩ = some (.pointer (some ⟨c, 0, none⟩)) from ⟨((unhide HK4).chg hch id).cell 0, ((unhide HK4).chg hch id).cell 1, (((unhide HK4).chg hch id).cell 2).trans (congrArg some (unhide HTV)), ((unhide HK2).chg hch id).cell 0⟩); obtain ⟨A3, c3, rfl⟩ := own_val ho; have HO3 := hide ho; have HC3 := hide hch; have HD3 := hide hch2; clear ho hch hch2)
    | (refine step_append_rd _ rfl (.tmp 263) (.tmp 266) 30 rfl w2.heap.size 3 i0_ _ 1 8 Tryd.underlying30 hi0 hz0 hz1 hz2 rfl (Nat.succ_pos 0) _ s.tries.length (s.tries.map intl) rfl ?_ (fun _ => True) _ 1 1 [intl s.height] rfl rfl ?_ ho1 mx1 mx2 ?_ ?_; (first | exact unhide HO3 | exact (unhide HO3).alloc _); (first | exact (unhide HRA w3).mono (fun _ _ => trivial) | exact (unhide HRB _ (unhide HD3)).mono (fun _ _ => trivial)); (first | exact (unhide HC3).size | exact ((unhide HC3).alloc _).size); intro v4 w4 ho4 hc4 hat4; (first | have hc5 : Chg (fun _ => False) w2 w4 := (unhide HC3).trans hc4 (fun k hk e => by have := ((unhide HO3).lt k e).1; omega) | have hc5 : Chg (fun _ => False) w2 w4 := ((unhide HC3).alloc _).trans hc4 (fun k hk e => by have := ((unhide HO3).lt k e).1; omega)); have HKM := hide (show w4.cell? ⟨sb, 0, none⟩ = some (.int .i64 s.of) ∧ w4.cell? ⟨sb, 1, none⟩ = some (.int .i64 s.height) ∧ w4.cell? ⟨sb, 2, none⟩ = some (.slice tA s.tries.length tcp) ∧ w4.cell? ⟨cb, 0, none⟩ = some (.pointer (some ⟨c, 0, none⟩)) from ⟨((unhide HK4).chg hc5 id).cell 0, ((unhide HK4).chg hc5 id).cell 1, (((unhide HK4).chg hc5 id).cell 2).trans (congrArg some (unhide HTV)), ((unhide HK2).chg hc5 id).cell 0⟩); have HO4 := hide ho4; obtain ⟨A4, c4, rfl⟩ := own_val ho4; have HC5 := hide hc5; clear ho4 hc4 hat4 hc5)
    | (go_at_call 32; refine (unhide HCM _ _ (unhide HC5) (unhide HO4)).mono ?_; rintro e w5 ⟨rfl, hco⟩; obtain ⟨k1, k2, k3, k4⟩ := (unhide H).after hco; have HKL := hide (show w5.cell? ⟨sb, 0, none⟩ = some (.int .i64 s.of) ∧ w5.cell? ⟨sb, 1, none⟩ = some (.int .i64 s.height) ∧ w5.cell? ⟨sb, 2, none⟩ = some (.slice tA s.tries.length tcp) ∧ w5.cell? ⟨cb, 0, none⟩ = some (.pointer (some ⟨c, 0, none⟩)) from ⟨k4.cell 0, k4.cell 1, (k4.cell 2).trans (congrArg some (unhide HTV)), k2.cell 0⟩); have HCO := hide hco; clear hco k1 k2 k3 k4))
  all_goals
    refine NoPanic.normal ?_
    try dsimp only
    go_wp2_with fail
    exact unhide HX _ _ (unhide HCO).more
end Go.Proofs.YtejkaalhjocmgaaDoor
