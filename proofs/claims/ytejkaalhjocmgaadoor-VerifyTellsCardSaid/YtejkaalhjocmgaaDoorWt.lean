/-
  Layer 19: where an instruction is done: 3.
-/
import Derived.Test.YtejkaalhjocmgaaDoorWs
namespace Go.Proofs.YtejkaalhjocmgaaDoor
open Go.RowKit
set_option maxHeartbeats 1000000
set_option maxRecDepth 1000000
set_option maxHeartbeats 4000000
theorem come_has (n : Nat) (C : PC) (t : Nat) (s : PSt) : (C.come n t s).has = C.has := by
  unfold PC.come
  split
  · rfl
  · split
    · split <;> rfl
    · rfl
theorem step_has (n : Nat) (s : PSt) (floor takes puts : Int) (holds : Bool) : ∀ (tos : List Nat) (C : PC), (C.step n s floor takes puts holds tos).has = C.has := by
  have aux : ∀ (s' : PSt) (tos : List Nat) (C : PC), (tos.foldl (fun C t => C.come n t s') C).has = C.has := by
    intro s' tos
    induction tos with
    | nil => intro C; rfl
    | cons t l ih => intro C; rw [List.foldl_cons, ih, come_has]
  intro tos C
  unfold PC.step
  split
  · rfl
  · exact aux _ _ _
def LookS (mp : Nat) (x : I64) (c : Int) (W : World) : Prop := ∃ N f, MapK Tryd.prog 3 3 .i64 ikey W mp N f ∧ (f x).getD 0 = c
theorem LookS.run {mp : Nat} {x : I64} {c : Int} {W : World} (h : LookS mp x c W) : (Instr.lookup 65 (.map (some mp)) (.int .i64 x.val) false).run Tryd.prog W = .ok (.int .i64 c) W ∧ (Lit.int .i64 c).wf = true := by
  obtain ⟨N, f, ⟨D, h1, _, h3⟩, hf⟩ := h
  obtain ⟨c', hrun, hat, hwc⟩ := h1.lookup_int keyed3 Tryd.underlying65 Tryd.underlying3 (zero3 W) (key := .int .i64 x.val) (kl := ikey x) (Maps.keyOf_int_mk Tryd.underlying3 (WalkArith.wf_i64 x.property))
  rw [(h3 x).2] at hat
  injection hat with hat
  injection hat with _ hat
  rw [hf] at hat
  subst hat
  exact ⟨hrun, hwc⟩
theorem look_exec {mp : Nat} {x : I64} {c : Int} {W : World} {o : Oper} {a : Act} (m k : Operand) (hop : o.op = Op.lookup 65 m k false) (hm : a.eval m = .map (some mp)) (hx : a.eval k = .int .i64 x.val) (h : LookS mp x c W) : (execOp a.eval o).run Tryd.prog W = .ok (.value (.int .i64 c)) W := by
  have hrun := h.run.1
  simp [execOp, hop, hm, hx, hrun, Result.andThen]
theorem LookS.chg {S : Nat → Prop} {mp : Nat} {x : I64} {c : Int} {w W : World} (h : LookS mp x c w) (hc : Chg S w W) (hn : ¬ S mp) : LookS mp x c W := by
  obtain ⟨N, f, hm, hf⟩ := h
  exact ⟨N, f, hm.chg hc hn, hf⟩
theorem COut.cell3 {w w' : World} {base c b mp n L : Nat} {pv cv v5 : Value} {C : PC} (h : COut w w' base c b mp n L pv cv v5 C) : w'.cell? ⟨c, 3, none⟩ = some (.map (some mp)) := by
  obtain ⟨v5', f, cs', h1, _, _⟩ := h
  exact h1.ck.cell 3
theorem COut.look {w w' : World} {base c b mp n L : Nat} {pv cv v5 : Value} {C : PC} (h : COut w w' base c b mp n L pv cv v5 C) (x : Int) (hx : -(9223372036854775808 : Int) ≤ x ∧ x ≤ 9223372036854775807) (v : Int) (hv : C.has x = v) : LookS mp ⟨x, hx⟩ v w' := by
  obtain ⟨v5', f, cs', h1, _, _⟩ := h
  obtain ⟨N, _, hm⟩ := h1.mp_
  exact ⟨N, f, hm, ((h1.has ⟨x, hx⟩).symm.trans hv)⟩
theorem do_3_t (x3 x9 x10 x11 x12 x13 x14 x15 x16 x17 x18 x19 x20 x21 x22 x23 x24 x25 x26 x27 x28 x29 x30 x31 x32 x33 x34 x35 x36 x37 x38 x39 x40 x42 x43 x44 x45 x46 x47 x48 x49 x50 x51 x52 x53 x54 x55 x56 x57 x58 x59 x60 x61 x62 x63 x64 x65 x66 x67 x68 x69 x70 x71 x72 x73 x74 x75 x76 x77 x78 x79 x80 x81 x82 x83 x84 x85 x86 x87 x88 x89 x90 x91 x92 x93 x94 x95 x96 x97 x98 x99 x100 x101 x102 x103 x104 x105 x106 x107 x108 x109 x110 x111 x112 x113 x114 x115 x116 x117 x118 x119 x120 x121 x122 x123 x124 x125 x126 x127 x128 x129 x130 x131 x132 x133 x134 x135 x136 x137 x138 x139 x140 x141 x142 x143 x144 x145 x146 x147 x148 x149 x150 x151 x152 x153 x154 x155 x156 x157 x158 x159 x160 x161 x162 x163 x164 x165 x166 x167 x168 x169 x170 x171 x172 x173 x174 x175 x176 x177 x178 x179 x180 x181 x182 x183 x184 x185 x186 x187 x188 x189 x190 x191 x192 x193 x194 x195 x196 x197 x198 x199 x200 x201 x202 x203 x204 x205 x206 x207 x208 x209 x210 x211 x212 x213 x214 x215 x216 x217 x218 x219 x220 x221 x222 x223 x224 x225 x226 x227 x228 x229 x230 x231 x232 x233 x234 x235 x236 x237 x238 x239 x240 x241 x242 x243 x244 x245 x246 x247 x248 x249 x250 x251 x252 x253 x254 x255 x256 x257 x258 x259 x260 x261 x262 x263 x264 x265 x266 x267 x268 x269 x270 x271 x272 x273 x274 x275 x276 x277 x278 x279 x280 x281 x282 x283 x284 x285 x286 x287 x288 x289 x290 x291 x292 x293 x294 x295 x296 x297 x298 x299 x300 x301 x302 x303 x304 x305 x306 x307 x308 x309 x310 x311 x312 x313 x314 x315 x316 x317 x318 x319 x320 : Value) (w : World) (base c b mp n L : Nat) (m : Im) (pA cA : Option Addr) (pc cc : Nat) (v5 : Value) (f : I64 → Option Int) (cs : Array Value) (C : PC) (at_ : Nat) (s : PSt) (tv : Value) (cb ib sb fb : Nat) (ia ibv : Int)
    (h : DoSt w base c b mp n L m pA cA pc cc v5 f cs C at_ s tv cb ib sb fb) (hi : insAt m at_ = ⟨3, ia, ibv⟩) (hh0 : 0 ≤ C.has s.of) (hfn : (s.of != -1) = true)
    (Q : Exit → Act → World → Prop) (hexit : ∀ (tmps : Array Value) (w' : World), COut w w' base c b mp n (L + 1) (.slice pA m.pool.length pc) (.slice cA n cc) v5 (C.act conB m at_ s) → Q .normal ⟨tmps, []⟩ w') :
    Code.wp Tryd.prog doC Q ⟨#[.pointer (some ⟨c, 0, none⟩), .int .i64 (at_ : Int), .pointer (some ⟨cb, 0, none⟩), x3, .pointer (some ⟨ib, 0, none⟩), .pointer (some ⟨sb, 0, none⟩), .pointer (some ⟨fb, 0, none⟩), .bool (s.of != -1), .func (.func 45) #[] #[.pointer (some ⟨sb, 0, none⟩), .pointer (some ⟨fb, 0, none⟩), .pointer (some ⟨cb, 0, none⟩)], x9, x10, x11, x12, x13, x14, x15, x16, x17, x18, x19, x20, x21, x22, x23, x24, x25, x26, x27, x28, x29, x30, x31, x32, x33, x34, x35, x36, x37, x38, x39, x40, .int .i64 3, x42, x43, x44, x45, x46, x47, x48, x49, x50, x51, x52, x53, x54, x55, x56, x57, x58, x59, x60, x61, x62, x63, x64, x65, x66, x67, x68, x69, x70, x71, x72, x73, x74, x75, x76, x77, x78, x79, x80, x81, x82, x83, x84, x85, x86, x87, x88, x89, x90, x91, x92, x93, x94, x95, x96, x97, x98, x99, x100, x101, x102, x103, x104, x105, x106, x107, x108, x109, x110, x111, x112, x113, x114, x115, x116, x117, x118, x119, x120, x121, x122, x123, x124, x125, x126, x127, x128, x129, x130, x131, x132, x133, x134, x135, x136, x137, x138, x139, x140, x141, x142, x143, x144, x145, x146, x147, x148, x149, x150, x151, x152, x153, x154, x155, x156, x157, x158, x159, x160, x161, x162, x163, x164, x165, x166, x167, x168, x169, x170, x171, x172, x173, x174, x175, x176, x177, x178, x179, x180, x181, x182, x183, x184, x185, x186, x187, x188, x189, x190, x191, x192, x193, x194, x195, x196, x197, x198, x199, x200, x201, x202, x203, x204, x205, x206, x207, x208, x209, x210, x211, x212, x213, x214, x215, x216, x217, x218, x219, x220, x221, x222, x223, x224, x225, x226, x227, x228, x229, x230, x231, x232, x233, x234, x235, x236, x237, x238, x239, x240, x241, x242, x243, x244, x245, x246, x247, x248, x249, x250, x251, x252, x253, x254, x255, x256, x257, x258, x259, x260, x261, x262, x263, x264, x265, x266, x267, x268, x269, x270, x271, x272, x273, x274, x275, x276, x277, x278, x279, x280, x281, x282, x283, x284, x285, x286, x287, x288, x289, x290, x291, x292, x293, x294, x295, x296, x297, x298, x299, x300, x301, x302, x303, x304, x305, x306, x307, x308, x309, x310, x311, x312, x313, x314, x315, x316, x317, x318, x319, x320], []⟩ w := by
  have hok := insAt_ok h.ok (by have := h.at_lt; have := h.ncode; omega : at_ < m.code.length)
  rw [hi] at hok
  dsimp only at hok
  have hAct : C.act conB m at_ s = C.step n s (floorT s.tries) 0 1 ((s.of != -1) && decide (ia < C.has s.of - 1)) [at_ + 1] := by
    have hn := h.ncode
    unfold PC.act
    rw [hi, hn]
    rfl
  have i0 := h.ibB.cell 0
  have i1 := h.ibB.cell 1
  have i2 := h.ibB.cell 2
  have s0 := h.sbB.cell 0
  have s1 := h.sbB.cell 1
  have s2 := h.sbB.cell 2
  have c0 := h.cbB.cell 0
  have k0 := h.mem.ck.cell 0
  have k3 := h.mem.ck.cell 3
  rw [hi] at i0 i1 i2
  simp only [List.getElem?_toArray, List.getElem?_cons_zero, List.getElem?_cons_succ] at i0 i1 i2 s0 s1 s2 c0 k0 k3
  have hat := h.at_lt
  have hn_ := h.n_
  have hht := h.ht
  have hpn := h.pn
  have htrl := h.trl
  obtain ⟨tA, tcp, htv⟩ := h.tr.val
  rw [htv] at s2
  rw [hAct] at hexit
  have H := hide h
  have HX := hide hexit
  clear h hexit hAct htv
  have hof := (unhide H).of_
  have hofb : -(9223372036854775808 : Int) ≤ s.of ∧ s.of ≤ 9223372036854775807 := by omega
  have hlook : LookS mp ⟨s.of, hofb⟩ (C.has s.of) w := by
    obtain ⟨N, _, hm⟩ := (unhide H).mem.mp_
    exact ⟨N, f, hm, ((unhide H).mem.has ⟨s.of, hofb⟩).symm⟩
  have hwf := hlook.run.2
  generalize hhv : C.has s.of = hv at *
  have hHas := hide (fun (tk pt : Int) (ho : Bool) (ts : List Nat) => (congrFun (step_has n s (floorT s.tries) tk pt ho ts C) s.of).trans hhv)
  have hub : hv ≤ 9223372036854775807 := by
    simp [Lit.wf] at hwf
    exact hwf.2
  have hw2 : IntKind.i64.wrap (hv - 1) = hv - 1 := IntWalk.i64_in _ (by omega)
  have HS := hide ((unhide H).step 0 1 (decide (ia < hv - 1)) [at_ + 1] (some ⟨w.heap.size, 0, none⟩) 1 (w.alloc (.cells ([at_ + 1].map (fun t : Nat => intl (t : Int))).toArray 3)).drew (((Chg.refl _ w).alloc _).drew) (tos_new (unhide H).mem [at_ + 1] (by simp) w (Chg.refl _ w)) (by simp <;> omega) (by simp) (by omega))
  have hcl := (unhide H).cbB.lt
  have hil := (unhide H).ibB.lt
  have hkl := (unhide H).mem.ck.lt
  have hsl := (unhide H).sbB.lt
  have hw1 : IntKind.i64.wrap ((at_ : Int) + 1) = (at_ : Int) + 1 := IntWalk.i64_in _ (by omega)
  rw [hfn] at HX ⊢
  rw [Bool.true_and] at HX
  conv => arg 2; whnf
  go_upto_region 15 with fail
  refine wp_region_noPanic ?_
  refine wp_region_held_drew (S := fun W' => W'.cell? ⟨ib, 1, none⟩ = some (.int .i64 ia) ∧ W'.cell? ⟨cb, 0, none⟩ = some (.pointer (some ⟨c, 0, none⟩)) ∧ W'.cell? ⟨c, 3, none⟩ = some (.map (some mp)) ∧ W'.cell? ⟨sb, 0, none⟩ = some (.int .i64 s.of) ∧ LookS mp ⟨s.of, hofb⟩ hv W') (by kernel_rfl) ⟨i1, c0, k3, s0, hlook⟩ (fun hHeld => ?_)
  refine heldOn 0 (_) rfl (by kernel_rfl) (by kernel_rfl) (by kernel_rfl) (fun _ _ _ h => h) (by rfl) (fun w hSw => by obtain ⟨hz0, hz1, hz2, hz3, hz4⟩ := hSw; go_simp; rfl) (by assumption) ?_
  simp only [Act.put, List.setIfInBounds_toArray]
  refine heldOn 1 (_) rfl (by kernel_rfl) (by kernel_rfl) (by kernel_rfl) (fun _ _ _ h => h) (by rfl) (fun w hSw => by obtain ⟨hz0, hz1, hz2, hz3, hz4⟩ := hSw; go_simp; rfl) (by assumption) ?_
  simp only [Act.put]
  refine heldOn 2 (_) rfl (by kernel_rfl) (by kernel_rfl) (by kernel_rfl) (fun _ _ _ h => h) (by rfl) (fun w hSw => by obtain ⟨hz0, hz1, hz2, hz3, hz4⟩ := hSw; go_simp; rfl) (by assumption) ?_
  simp only [Act.put]
  refine heldOn 3 (_) rfl (by kernel_rfl) (by kernel_rfl) (by kernel_rfl) (fun _ _ _ h => h) (by kernel_rfl) (fun w hSw => by obtain ⟨hz0, hz1, hz2, hz3, hz4⟩ := hSw; go_simp; rfl) (by assumption) ?_
  simp only [Act.put]
  refine heldOn 4 (_) rfl (by kernel_rfl) (by kernel_rfl) (by kernel_rfl) (fun _ _ _ h => h) (by kernel_rfl) (fun w hSw => by obtain ⟨hz0, hz1, hz2, hz3, hz4⟩ := hSw; go_simp; rfl) (by assumption) ?_
  simp only [Act.put]
  refine heldOn 5 (_) rfl (by kernel_rfl) (by kernel_rfl) (by kernel_rfl) (fun _ _ _ h => h) (by kernel_rfl) (fun w hSw => by obtain ⟨hz0, hz1, hz2, hz3, hz4⟩ := hSw; go_simp; rfl) (by assumption) ?_
  simp only [Act.put]
  refine heldOn 6 (_) rfl (by kernel_rfl) (by kernel_rfl) (by kernel_rfl) (fun _ _ _ h => h) (by kernel_rfl) (fun w hSw => by obtain ⟨hz0, hz1, hz2, hz3, hz4⟩ := hSw; go_simp; rfl) (by assumption) ?_
  simp only [Act.put]
  refine heldOn 7 (_) rfl (by kernel_rfl) (by kernel_rfl) (by kernel_rfl) (fun _ _ _ h => h) (by kernel_rfl) (fun w hSw => by obtain ⟨hz0, hz1, hz2, hz3, hz4⟩ := hSw; go_simp; rfl) (by assumption) ?_
  simp only [Act.put]
  refine heldOn 8 (_) rfl (by kernel_rfl) (by kernel_rfl) (by kernel_rfl) (fun _ _ _ h => h) (by kernel_rfl) (fun w hSw => by obtain ⟨hz0, hz1, hz2, hz3, hz4⟩ := hSw; go_simp; rfl) (by assumption) ?_
  simp only [Act.put]
  refine heldOn 9 (_) rfl (by kernel_rfl) (by kernel_rfl) (by kernel_rfl) (fun _ _ _ h => h) (by kernel_rfl) (fun w hSw => by obtain ⟨hz0, hz1, hz2, hz3, hz4⟩ := hSw; go_simp; rfl) (by assumption) ?_
  simp only [Act.put]
  refine heldOn 10 (_) rfl (by kernel_rfl) (by kernel_rfl) (by kernel_rfl) (fun _ _ _ h => h) (by kernel_rfl) (fun w hSw => by obtain ⟨hz0, hz1, hz2, hz3, hz4⟩ := hSw; go_simp; rfl) (by assumption) ?_
  simp only [Act.put]
  refine heldOn 11 (.int .i64 hv) rfl (by kernel_rfl) (by kernel_rfl) (by kernel_rfl) (fun _ _ _ h => h) (by kernel_rfl) (fun w hSw => look_exec (mp := mp) (x := ⟨s.of, hofb⟩) (c := hv) (.tmp 92) (.tmp 94) rfl (by kernel_rfl) (by kernel_rfl) hSw.2.2.2.2) (by assumption) ?_
  simp only [Act.put]
  refine heldOn 12 (_) rfl (by kernel_rfl) (by kernel_rfl) (by kernel_rfl) (fun _ _ _ h => h) (by kernel_rfl) (fun w hSw => by obtain ⟨hz0, hz1, hz2, hz3, hz4⟩ := hSw; go_simp; rfl) (by assumption) ?_
  simp only [Act.put]
  refine heldOn 13 (_) rfl (by kernel_rfl) (by kernel_rfl) (by kernel_rfl) (fun _ _ _ h => h) (by kernel_rfl) (fun w hSw => by obtain ⟨hz0, hz1, hz2, hz3, hz4⟩ := hSw; go_simp; rfl) (by assumption) ?_
  simp only [Act.put]
  refine heldOn 14 (_) rfl (by kernel_rfl) (by kernel_rfl) (by kernel_rfl) (fun _ _ _ h => h) (by rfl) (fun w hSw => by obtain ⟨hz0, hz1, hz2, hz3, hz4⟩ := hSw; go_simp; rfl) (by assumption) ?_
  simp only [Act.put]
  refine heldOn 15 (_) rfl (by kernel_rfl) (by kernel_rfl) (by kernel_rfl) (fun _ _ _ h => h) (by rfl) (fun w hSw => by obtain ⟨hz0, hz1, hz2, hz3, hz4⟩ := hSw; go_simp; rfl) (by assumption) ?_
  simp only [Act.put]
  refine heldOn 16 (_) rfl (by kernel_rfl) (by kernel_rfl) (by kernel_rfl) (fun _ _ _ h => h) (by rfl) (fun w hSw => by obtain ⟨hz0, hz1, hz2, hz3, hz4⟩ := hSw; go_simp; rfl) (by assumption) ?_
  simp only [Act.put]
  refine wpAnyH_ready (rs := [17]) (by kernel_rfl) (by simp) ?_
  refine AllReadyH.cons (o := _) rfl (fun K hK => ?_) AllReadyH.nil
  go_simp
  refine hK.out _ _ ⟨by go_keep, by go_keep, by go_keep, by go_keep, hlook.chg (((Chg.refl (fun _ => False) w).alloc _).drew) id⟩ (fun hHeld => ?_)
  clear hK K
  refine wpAnyH_ready (rs := [18]) (by kernel_rfl) (by simp) ?_
  refine AllReadyH.cons (o := _) rfl (fun K hK => ?_) AllReadyH.nil
  go_simp
  go_wp2_with (first
    | (go_at_call 45; refine (unhide HS).mono ?_; rintro e w2 ⟨rfl, hco⟩; obtain ⟨k1, k2, k3, k4⟩ := (unhide H).after hco; rw [hi] at k1; have HKK := hide (show w2.cell? ⟨ib, 1, none⟩ = some (.int .i64 ia) ∧ w2.cell? ⟨cb, 0, none⟩ = some (.pointer (some ⟨c, 0, none⟩)) ∧ w2.cell? ⟨c, 3, none⟩ = some (.map (some mp)) ∧ w2.cell? ⟨sb, 0, none⟩ = some (.int .i64 s.of) ∧ LookS mp ⟨s.of, hofb⟩ hv w2 from ⟨k1.cell 1, k2.cell 0, hco.cell3, k4.cell 0, hco.look s.of hofb hv (unhide hHas _ _ _ _)⟩); have HCO := hide hco; clear hco k1 k2 k3 k4))
  refine hK.out _ _ (unhide HKK) (fun hHeld2 => ?_)
  refine wpAnyH_done (by kernel_rfl) ?_ _
  refine NoPanic.normal ?_
  try dsimp only
  go_wp2_with fail
  exact unhide HX _ _ (unhide HCO).more
theorem do_3_f (x3 x9 x10 x11 x12 x13 x14 x15 x16 x17 x18 x19 x20 x21 x22 x23 x24 x25 x26 x27 x28 x29 x30 x31 x32 x33 x34 x35 x36 x37 x38 x39 x40 x42 x43 x44 x45 x46 x47 x48 x49 x50 x51 x52 x53 x54 x55 x56 x57 x58 x59 x60 x61 x62 x63 x64 x65 x66 x67 x68 x69 x70 x71 x72 x73 x74 x75 x76 x77 x78 x79 x80 x81 x82 x83 x84 x85 x86 x87 x88 x89 x90 x91 x92 x93 x94 x95 x96 x97 x98 x99 x100 x101 x102 x103 x104 x105 x106 x107 x108 x109 x110 x111 x112 x113 x114 x115 x116 x117 x118 x119 x120 x121 x122 x123 x124 x125 x126 x127 x128 x129 x130 x131 x132 x133 x134 x135 x136 x137 x138 x139 x140 x141 x142 x143 x144 x145 x146 x147 x148 x149 x150 x151 x152 x153 x154 x155 x156 x157 x158 x159 x160 x161 x162 x163 x164 x165 x166 x167 x168 x169 x170 x171 x172 x173 x174 x175 x176 x177 x178 x179 x180 x181 x182 x183 x184 x185 x186 x187 x188 x189 x190 x191 x192 x193 x194 x195 x196 x197 x198 x199 x200 x201 x202 x203 x204 x205 x206 x207 x208 x209 x210 x211 x212 x213 x214 x215 x216 x217 x218 x219 x220 x221 x222 x223 x224 x225 x226 x227 x228 x229 x230 x231 x232 x233 x234 x235 x236 x237 x238 x239 x240 x241 x242 x243 x244 x245 x246 x247 x248 x249 x250 x251 x252 x253 x254 x255 x256 x257 x258 x259 x260 x261 x262 x263 x264 x265 x266 x267 x268 x269 x270 x271 x272 x273 x274 x275 x276 x277 x278 x279 x280 x281 x282 x283 x284 x285 x286 x287 x288 x289 x290 x291 x292 x293 x294 x295 x296 x297 x298 x299 x300 x301 x302 x303 x304 x305 x306 x307 x308 x309 x310 x311 x312 x313 x314 x315 x316 x317 x318 x319 x320 : Value) (w : World) (base c b mp n L : Nat) (m : Im) (pA cA : Option Addr) (pc cc : Nat) (v5 : Value) (f : I64 → Option Int) (cs : Array Value) (C : PC) (at_ : Nat) (s : PSt) (tv : Value) (cb ib sb fb : Nat) (ia ibv : Int)
    (h : DoSt w base c b mp n L m pA cA pc cc v5 f cs C at_ s tv cb ib sb fb) (hi : insAt m at_ = ⟨3, ia, ibv⟩) (hh0 : 0 ≤ C.has s.of) (hfn : (s.of != -1) = false)
    (Q : Exit → Act → World → Prop) (hexit : ∀ (tmps : Array Value) (w' : World), COut w w' base c b mp n (L + 1) (.slice pA m.pool.length pc) (.slice cA n cc) v5 (C.act conB m at_ s) → Q .normal ⟨tmps, []⟩ w') :
    Code.wp Tryd.prog doC Q ⟨#[.pointer (some ⟨c, 0, none⟩), .int .i64 (at_ : Int), .pointer (some ⟨cb, 0, none⟩), x3, .pointer (some ⟨ib, 0, none⟩), .pointer (some ⟨sb, 0, none⟩), .pointer (some ⟨fb, 0, none⟩), .bool (s.of != -1), .func (.func 45) #[] #[.pointer (some ⟨sb, 0, none⟩), .pointer (some ⟨fb, 0, none⟩), .pointer (some ⟨cb, 0, none⟩)], x9, x10, x11, x12, x13, x14, x15, x16, x17, x18, x19, x20, x21, x22, x23, x24, x25, x26, x27, x28, x29, x30, x31, x32, x33, x34, x35, x36, x37, x38, x39, x40, .int .i64 3, x42, x43, x44, x45, x46, x47, x48, x49, x50, x51, x52, x53, x54, x55, x56, x57, x58, x59, x60, x61, x62, x63, x64, x65, x66, x67, x68, x69, x70, x71, x72, x73, x74, x75, x76, x77, x78, x79, x80, x81, x82, x83, x84, x85, x86, x87, x88, x89, x90, x91, x92, x93, x94, x95, x96, x97, x98, x99, x100, x101, x102, x103, x104, x105, x106, x107, x108, x109, x110, x111, x112, x113, x114, x115, x116, x117, x118, x119, x120, x121, x122, x123, x124, x125, x126, x127, x128, x129, x130, x131, x132, x133, x134, x135, x136, x137, x138, x139, x140, x141, x142, x143, x144, x145, x146, x147, x148, x149, x150, x151, x152, x153, x154, x155, x156, x157, x158, x159, x160, x161, x162, x163, x164, x165, x166, x167, x168, x169, x170, x171, x172, x173, x174, x175, x176, x177, x178, x179, x180, x181, x182, x183, x184, x185, x186, x187, x188, x189, x190, x191, x192, x193, x194, x195, x196, x197, x198, x199, x200, x201, x202, x203, x204, x205, x206, x207, x208, x209, x210, x211, x212, x213, x214, x215, x216, x217, x218, x219, x220, x221, x222, x223, x224, x225, x226, x227, x228, x229, x230, x231, x232, x233, x234, x235, x236, x237, x238, x239, x240, x241, x242, x243, x244, x245, x246, x247, x248, x249, x250, x251, x252, x253, x254, x255, x256, x257, x258, x259, x260, x261, x262, x263, x264, x265, x266, x267, x268, x269, x270, x271, x272, x273, x274, x275, x276, x277, x278, x279, x280, x281, x282, x283, x284, x285, x286, x287, x288, x289, x290, x291, x292, x293, x294, x295, x296, x297, x298, x299, x300, x301, x302, x303, x304, x305, x306, x307, x308, x309, x310, x311, x312, x313, x314, x315, x316, x317, x318, x319, x320], []⟩ w := by
  have hok := insAt_ok h.ok (by have := h.at_lt; have := h.ncode; omega : at_ < m.code.length)
  rw [hi] at hok
  dsimp only at hok
  have hAct : C.act conB m at_ s = C.step n s (floorT s.tries) 0 1 ((s.of != -1) && decide (ia < C.has s.of - 1)) [at_ + 1] := by
    have hn := h.ncode
    unfold PC.act
    rw [hi, hn]
    rfl
  have i0 := h.ibB.cell 0
  have i1 := h.ibB.cell 1
  have i2 := h.ibB.cell 2
  have s0 := h.sbB.cell 0
  have s1 := h.sbB.cell 1
  have s2 := h.sbB.cell 2
  have c0 := h.cbB.cell 0
  have k0 := h.mem.ck.cell 0
  have k3 := h.mem.ck.cell 3
  rw [hi] at i0 i1 i2
  simp only [List.getElem?_toArray, List.getElem?_cons_zero, List.getElem?_cons_succ] at i0 i1 i2 s0 s1 s2 c0 k0 k3
  have hat := h.at_lt
  have hn_ := h.n_
  have hht := h.ht
  have hpn := h.pn
  have htrl := h.trl
  obtain ⟨tA, tcp, htv⟩ := h.tr.val
  rw [htv] at s2
  rw [hAct] at hexit
  have H := hide h
  have HX := hide hexit
  clear h hexit hAct htv
  have hof := (unhide H).of_
  have hofb : -(9223372036854775808 : Int) ≤ s.of ∧ s.of ≤ 9223372036854775807 := by omega
  have hlook : LookS mp ⟨s.of, hofb⟩ (C.has s.of) w := by
    obtain ⟨N, _, hm⟩ := (unhide H).mem.mp_
    exact ⟨N, f, hm, ((unhide H).mem.has ⟨s.of, hofb⟩).symm⟩
  have hwf := hlook.run.2
  generalize hhv : C.has s.of = hv at *
  have hHas := hide (fun (tk pt : Int) (ho : Bool) (ts : List Nat) => (congrFun (step_has n s (floorT s.tries) tk pt ho ts C) s.of).trans hhv)
  have hub : hv ≤ 9223372036854775807 := by
    simp [Lit.wf] at hwf
    exact hwf.2
  have hw2 : IntKind.i64.wrap (hv - 1) = hv - 1 := IntWalk.i64_in _ (by omega)
  have HS := hide ((unhide H).step 0 1 false [at_ + 1] (some ⟨w.heap.size, 0, none⟩) 1 (w.alloc (.cells ([at_ + 1].map (fun t : Nat => intl (t : Int))).toArray 3)).drew (((Chg.refl _ w).alloc _).drew) (tos_new (unhide H).mem [at_ + 1] (by simp) w (Chg.refl _ w)) (by simp <;> omega) (by simp) (by omega))
  have hcl := (unhide H).cbB.lt
  have hil := (unhide H).ibB.lt
  have hkl := (unhide H).mem.ck.lt
  have hsl := (unhide H).sbB.lt
  have hw1 : IntKind.i64.wrap ((at_ : Int) + 1) = (at_ : Int) + 1 := IntWalk.i64_in _ (by omega)
  rw [hfn] at HX ⊢
  rw [Bool.false_and] at HX
  conv => arg 2; whnf
  go_upto_region 15 with fail
  refine wp_region_noPanic ?_
  refine wp_region_held_drew (S := fun W' => W'.cell? ⟨ib, 1, none⟩ = some (.int .i64 ia) ∧ W'.cell? ⟨cb, 0, none⟩ = some (.pointer (some ⟨c, 0, none⟩)) ∧ W'.cell? ⟨c, 3, none⟩ = some (.map (some mp)) ∧ W'.cell? ⟨sb, 0, none⟩ = some (.int .i64 s.of) ∧ LookS mp ⟨s.of, hofb⟩ hv W') (by kernel_rfl) ⟨i1, c0, k3, s0, hlook⟩ (fun hHeld => ?_)
  refine heldOn 0 (_) rfl (by kernel_rfl) (by kernel_rfl) (by kernel_rfl) (fun _ _ _ h => h) (by rfl) (fun w hSw => by obtain ⟨hz0, hz1, hz2, hz3, hz4⟩ := hSw; go_simp; rfl) (by assumption) ?_
  simp only [Act.put, List.setIfInBounds_toArray]
  refine heldOn 1 (_) rfl (by kernel_rfl) (by kernel_rfl) (by kernel_rfl) (fun _ _ _ h => h) (by rfl) (fun w hSw => by obtain ⟨hz0, hz1, hz2, hz3, hz4⟩ := hSw; go_simp; rfl) (by assumption) ?_
  simp only [Act.put]
  refine heldOn 2 (_) rfl (by kernel_rfl) (by kernel_rfl) (by kernel_rfl) (fun _ _ _ h => h) (by rfl) (fun w hSw => by obtain ⟨hz0, hz1, hz2, hz3, hz4⟩ := hSw; go_simp; rfl) (by assumption) ?_
  simp only [Act.put]
  refine heldOff 3 rfl (by kernel_rfl) (by kernel_rfl) (by kernel_rfl) (fun _ _ _ h => h) (by kernel_rfl) (by assumption) ?_
  simp only [Act.put]
  refine heldOff 4 rfl (by kernel_rfl) (by kernel_rfl) (by kernel_rfl) (fun _ _ _ h => h) (by kernel_rfl) (by assumption) ?_
  simp only [Act.put]
  refine heldOff 5 rfl (by kernel_rfl) (by kernel_rfl) (by kernel_rfl) (fun _ _ _ h => h) (by kernel_rfl) (by assumption) ?_
  simp only [Act.put]
  refine heldOff 6 rfl (by kernel_rfl) (by kernel_rfl) (by kernel_rfl) (fun _ _ _ h => h) (by kernel_rfl) (by assumption) ?_
  simp only [Act.put]
  refine heldOff 7 rfl (by kernel_rfl) (by kernel_rfl) (by kernel_rfl) (fun _ _ _ h => h) (by kernel_rfl) (by assumption) ?_
  simp only [Act.put]
  refine heldOff 8 rfl (by kernel_rfl) (by kernel_rfl) (by kernel_rfl) (fun _ _ _ h => h) (by kernel_rfl) (by assumption) ?_
  simp only [Act.put]
  refine heldOff 9 rfl (by kernel_rfl) (by kernel_rfl) (by kernel_rfl) (fun _ _ _ h => h) (by kernel_rfl) (by assumption) ?_
  simp only [Act.put]
  refine heldOff 10 rfl (by kernel_rfl) (by kernel_rfl) (by kernel_rfl) (fun _ _ _ h => h) (by kernel_rfl) (by assumption) ?_
  simp only [Act.put]
  refine heldOff 11 rfl (by kernel_rfl) (by kernel_rfl) (by kernel_rfl) (fun _ _ _ h => h) (by kernel_rfl) (by assumption) ?_
  simp only [Act.put]
  refine heldOff 12 rfl (by kernel_rfl) (by kernel_rfl) (by kernel_rfl) (fun _ _ _ h => h) (by kernel_rfl) (by assumption) ?_
  simp only [Act.put]
  refine heldOff 13 rfl (by kernel_rfl) (by kernel_rfl) (by kernel_rfl) (fun _ _ _ h => h) (by kernel_rfl) (by assumption) ?_
  simp only [Act.put]
  refine heldOn 14 (_) rfl (by kernel_rfl) (by kernel_rfl) (by kernel_rfl) (fun _ _ _ h => h) (by rfl) (fun w hSw => by obtain ⟨hz0, hz1, hz2, hz3, hz4⟩ := hSw; go_simp; rfl) (by assumption) ?_
  simp only [Act.put]
  refine heldOn 15 (_) rfl (by kernel_rfl) (by kernel_rfl) (by kernel_rfl) (fun _ _ _ h => h) (by rfl) (fun w hSw => by obtain ⟨hz0, hz1, hz2, hz3, hz4⟩ := hSw; go_simp; rfl) (by assumption) ?_
  simp only [Act.put]
  refine heldOn 16 (_) rfl (by kernel_rfl) (by kernel_rfl) (by kernel_rfl) (fun _ _ _ h => h) (by rfl) (fun w hSw => by obtain ⟨hz0, hz1, hz2, hz3, hz4⟩ := hSw; go_simp; rfl) (by assumption) ?_
  simp only [Act.put]
  refine wpAnyH_ready (rs := [17]) (by kernel_rfl) (by simp) ?_
  refine AllReadyH.cons (o := _) rfl (fun K hK => ?_) AllReadyH.nil
  go_simp
  refine hK.out _ _ ⟨by go_keep, by go_keep, by go_keep, by go_keep, hlook.chg (((Chg.refl (fun _ => False) w).alloc _).drew) id⟩ (fun hHeld => ?_)
  clear hK K
  refine wpAnyH_ready (rs := [18]) (by kernel_rfl) (by simp) ?_
  refine AllReadyH.cons (o := _) rfl (fun K hK => ?_) AllReadyH.nil
  go_simp
  go_wp2_with (first
    | (go_at_call 45; refine (unhide HS).mono ?_; rintro e w2 ⟨rfl, hco⟩; obtain ⟨k1, k2, k3, k4⟩ := (unhide H).after hco; rw [hi] at k1; have HKK := hide (show w2.cell? ⟨ib, 1, none⟩ = some (.int .i64 ia) ∧ w2.cell? ⟨cb, 0, none⟩ = some (.pointer (some ⟨c, 0, none⟩)) ∧ w2.cell? ⟨c, 3, none⟩ = some (.map (some mp)) ∧ w2.cell? ⟨sb, 0, none⟩ = some (.int .i64 s.of) ∧ LookS mp ⟨s.of, hofb⟩ hv w2 from ⟨k1.cell 1, k2.cell 0, hco.cell3, k4.cell 0, hco.look s.of hofb hv (unhide hHas _ _ _ _)⟩); have HCO := hide hco; clear hco k1 k2 k3 k4))
  refine hK.out _ _ (unhide HKK) (fun hHeld2 => ?_)
  refine wpAnyH_done (by kernel_rfl) ?_ _
  refine NoPanic.normal ?_
  try dsimp only
  go_wp2_with fail
  exact unhide HX _ _ (unhide HCO).more
end Go.Proofs.YtejkaalhjocmgaaDoor
