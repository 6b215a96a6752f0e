/-
  The walk of HeapPlays.
-/
import Derived.Test.YtlgkgglecgdkgaaSwm
import Derived.Deep.CutRange
import Derived.Deep.CutBlock
namespace Go.Proofs.Ytlgkgglecgdkgaa
open Go.RowKit
set_option maxHeartbeats 400000
set_option maxRecDepth 100000

theorem Sim.new (n : Nat) (hn : n ≤ 500) : Sim (HM.new n) [] [] (fun _ => 0) := by
  refine ⟨by simp, by simp, by simp, by simp, by simp, ?_, by simp, by simp, by simp, by simp [HM.new, liveR], by simp [HM.new], by simp [HM.new], hn⟩
  intro a h
  simp [HM.new, List.getElem?_replicate] at h

set_option maxHeartbeats 2000000 in
theorem plays_in (l : List ActM) (n c : Nat) (A : Option Addr) (w : World) (h : RdActs w A l) (hf : fewL l = true) (h1 : 16 ≤ n) (h2 : n ≤ 500) :
    Calls Try.prog 4 #[.int .i64 (n : Int), .slice A l.length c] w fun e w' => e = .returned (.bool true) ∧ Chg (fun _ => False) w w' := by
  obtain ⟨j0, hj0, hy0, hy1, hy2⟩ := info_parts info26
  obtain ⟨i0, hi0, hz0, hz1, hz2⟩ := info_parts info51
  have Hh := hide h
  have hl60 : l.length ≤ 60 := by unfold fewL at hf; rw [Bool.and_eq_true] at hf; simpa using hf.1
  have hsm : ∀ a ∈ l, a.small = true := by unfold fewL at hf; rw [Bool.and_eq_true] at hf; exact List.all_eq_true.1 hf.2
  have HS := hide hsm
  clear h hsm
  go_enter Try.func4, Try.ntmps4
  go_wp2_with fail
  refine (awake_any _).mono ?_
  rintro e w1 ⟨rfl, c1⟩
  have C1 := hide c1
  have Hf := few_any l A c w1 ((unhide Hh).old c1) (by omega)
  rw [hf] at Hf
  clear c1
  go_wp2_with fail
  refine Hf.mono ?_
  rintro e w' ⟨rfl, rfl⟩
  go_wp2_with fail
  refine (new_yes n w1 h1 (by omega)).mono ?_
  rintro e w2 ⟨g, bn, bo, bb, rfl, hrep, hc2, q1, q2, q3, q4⟩
  have hw12 := (unhide C1).size
  have b1 := hrep.st.lt
  have b2 := hrep.rn.lt
  have b3 := hrep.ro.lt
  have b4 := hrep.rb.lt
  have hw2 := hc2.size
  have hpst : PSt w (((w2.alloc (.cells #[.int .i64 (n : Int), .int .i64 0, .slice none 0 0] 45)).alloc (.cells #[] 26)).alloc (.cells #[] 51)) w2.heap.size n g bn bo bb w2.heap.size (HM.new n) [] [] (fun _ => 0) [] (.slice (some ⟨w2.heap.size + 1, 0, none⟩) 0 0) (.slice (some ⟨w2.heap.size + 1 + 1, 0, none⟩) 0 0) none 0 := by
    have hch : Chg (fun _ => False) w2 (((w2.alloc (.cells #[.int .i64 (n : Int), .int .i64 0, .slice none 0 0] 45)).alloc (.cells #[] 26)).alloc (.cells #[] 51)) := (((Chg.refl _ w2).alloc _).alloc _).alloc _
    refine ⟨hrep.chg hch id id id id, Sim.new n h2, rfl, ⟨b1, b2, b3⟩, ⟨by omega, by omega, by omega, by omega, by omega⟩, Nat.le_refl _, ((Blk.new w2 45 _).alloc _).alloc _, ⟨[], rfl, fun h => absurd rfl h, fun p hp => absurd hp (by simp)⟩, ?_, ?_, by simp, ((unhide C1).trans' hc2).trans' hch⟩
    · have := (World.ownsRow_made (base := w2.heap.size) (e := 26) (size := 1) (w2.alloc (.cells #[.int .i64 (n : Int), .int .i64 0, .slice none 0 0] 45)) #[] 0 (by simp) (Nat.zero_le _) rfl).alloc (.cells #[] 51)
      rw [size_alloc] at this
      exact this
    · have := World.ownsRow_made (base := w2.heap.size) (e := 51) (size := 2) ((w2.alloc (.cells #[.int .i64 (n : Int), .int .i64 0, .slice none 0 0] 45)).alloc (.cells #[] 26)) #[] 0 (by rw [size_alloc, size_alloc]; omega) (Nat.zero_le _) rfl
      rw [size_alloc, size_alloc] at this
      exact this
  have HPS := hide hpst
  generalize hBe : w2.heap.size = B at HPS
  have HBE := hide hBe
  clear hrep hc2 hpst q1 q2 q3 q4 b1 b2 b3 b4 hw2 hw12 hBe
  go_wp2_with fail
  go_loopw [8, 9, 10] (fun v8 v9 i wr => ∃ (j : Nat) (bn bo bb : Nat) (M : HM) (all : List ObjM) (L : List Int) (wd : Int → Nat) (rs : List Rf) (A7 : Option Addr) (c7 : Nat), i = .int .i64 j ∧ j ≤ l.length ∧ all.length ≤ j ∧ rs.length ≤ j ∧
      PSt w wr B n g bn bo bb B M all L wd rs v8 v9 A7 c7) (fun _ _ i _ => l.length - (intOf i).toNat)
  case atStart =>
    refine ⟨0, bn, bo, bb, HM.new n, [], [], fun _ => 0, [], none, 0, rfl, Nat.zero_le _, Nat.le_refl _, Nat.le_refl _, ?_⟩
    have := unhide HPS
    rw [← unhide HBE] at this ⊢
    exact this
  case round =>
    obtain ⟨wq, rfl⟩ : ∃ wq : World, wq = wr := ⟨_, rfl⟩
    obtain ⟨j, bn, bo, bb, M, all, L, wd, rs, A7, c7, rfl, hj, hal, hrl, hst⟩ := hrel
    have hBE : w2.heap.size = B := unhide HBE
    subst hBE
    by_cases hlt : j < l.length
    · have ha0 := (unhide Hh).old hst.ch
      obtain ⟨b, o, rfl, hc⟩ := ha0.flat (by rintro rfl; simp at hlt)
      obtain ⟨v, ha⟩ := hc j _ (List.getElem?_eq_getElem hlt)
      have hsm := (unhide HS) _ (List.getElem_mem hlt)
      generalize l[j] = a at *
      obtain ⟨pA, pc, rfl, hints⟩ := ha.ints
      obtain ⟨c0, c1, c2, c3, c4, c5, c6, c7', _⟩ := ha
      have hpl : a.parts.length ≤ 20 := by simp [ActM.small] at hsm; exact hsm.1
      have htl : a.text.size ≤ 300 := by simp [ActM.small] at hsm; exact hsm.2
      have HST := hide hst
      have HIN := hide hints
      clear hst hints ha0 hc hsm
      go_upto_block 2 with fail
      go_cut [8, 9, 12, 13, 14, 15, 16, 17, 18, 19, 20, 21, 22, 23, 24, 25, 26, 27, 28, 29, 30, 31, 32, 33] from 85 to 297 (fun v8 v9 s12 s13 s14 s15 s16 s17 s18 s19 s20 s21 s22 s23 s24 s25 s26 s27 s28 s29 s30 s31 s32 s33 wx => ∃ (bn bo bb : Nat) (M : HM) (all : List ObjM) (L : List Int) (wd : Int → Nat) (rs : List Rf) (A7 : Option Addr) (c7 : Nat), all.length ≤ j + 1 ∧ rs.length ≤ j + 1 ∧
        PSt w wx w2.heap.size n g bn bo bb w2.heap.size M all L wd rs v8 v9 A7 c7)
      case first =>
        have hst1 := (unhide HST).old ((Chg.refl (fun _ => False) wq).alloc (.cells #[.int .i64 a.k, .int .i64 a.kind, .int .i64 a.tag, .slice pA a.parts.length pc, .string a.text, .int .i64 a.at_, .int .i64 a.by_, .int .i64 a.keep] 49))
        refine sw_all _ _ _ _ _ _ _ _ _ _ _ _ _ _ _ _ _ _ _ _ _ _ _ _ _ _ _ _ _ _ _ _ _ _ _ _ _ _ _ _ _ _ _ _ _ _ _ _ _ _ _ _ _ _ _ _ _ _ _ _ _ _ _ _ _ _ _ _ _ _ _ _ _ _ _ _ _ _ _ _ _ _ _ _ _ _ _ _ _ _ _ _ _ _ _ _ _ _ _ _ _ _ _ _ _ _ _ _ _ _ _ _ _ _ _ _ _ _ _ _ _ _ _ _ _ _ _ _ _ _ _ _ _ _ _ _ _ _ _ _ _ _ _ _ _ _ _ _ _ _ _ _ _ _ _ _ _ _ _ _ _ _ _ _ _ _ _ _ _ _ _ _ _ _ _ _ _ _ _ _ _ _ _ _ _ _ _ _ _ _ _ _ _ _ _ _ _ _ _ _ _ _ _ _ _ _ _ _ _ _ _ _ _ _ _ _ _ _ _ _ _ _ _ _ _ _ _ _ _ _ _ _ _ _ _ _ _ _ _ _ _ _ _ _ _ _ _ _ _ _ _ _ _ _ _ _ _ _ _ _ _ _ _ _ _ _ _ _ _ _ _ _ _ _ _ _ _ _ _ _ _ _ _ _ _ _ _ _ _ _ _ _ _ _ _ _ _ _ _ _ _ _ _ _ _ _ _ _ _ _ _ _ _ _ _ _ _ _ _ _ _ _ _ _ _ _ _ w _ w2.heap.size n g bn bo bb w2.heap.size wq.heap.size j pc pA M all L wd rs A7 c7 a hst1 hal hrl (by omega) (Blk.new wq 49 _) hpl htl ((unhide HIN).old ((Chg.refl (fun _ => False) wq).alloc (.cells #[.int .i64 a.k, .int .i64 a.kind, .int .i64 a.tag, .slice pA a.parts.length pc, .string a.text, .int .i64 a.at_, .int .i64 a.by_, .int .i64 a.keep] 49))) h1 _ ?_
        intro v8' v9' y12 y13 y14 y15 y16 y17 y18 y19 y20 y21 y22 y23 y24 y25 y26 y27 y28 y29 y30 y31 y32 y33 y85 y86 y87 y88 y89 y90 y91 y92 y93 y94 y95 y96 y97 y98 y99 y100 y101 y102 y103 y104 y105 y106 y107 y108 y109 y110 y111 y112 y113 y114 y115 y116 y117 y118 y119 y120 y121 y122 y123 y124 y125 y126 y127 y128 y129 y130 y131 y132 y133 y134 y135 y136 y137 y138 y139 y140 y141 y142 y143 y144 y145 y146 y147 y148 y149 y150 y151 y152 y153 y154 y155 y156 y157 y158 y159 y160 y161 y162 y163 y164 y165 y166 y167 y168 y169 y170 y171 y172 y173 y174 y175 y176 y177 y178 y179 y180 y181 y182 y183 y184 y185 y186 y187 y188 y189 y190 y191 y192 y193 y194 y195 y196 y197 y198 y199 y200 y201 y202 y203 y204 y205 y206 y207 y208 y209 y210 y211 y212 y213 y214 y215 y216 y217 y218 y219 y220 y221 y222 y223 y224 y225 y226 y227 y228 y229 y230 y231 y232 y233 y234 y235 y236 y237 y238 y239 y240 y241 y242 y243 y244 y245 y246 y247 y248 y249 y250 y251 y252 y253 y254 y255 y256 y257 y258 y259 y260 y261 y262 y263 y264 y265 y266 y267 y268 y269 y270 y271 y272 y273 y274 y275 y276 y277 y278 y279 y280 y281 y282 y283 y284 y285 y286 y287 y288 y289 y290 y291 y292 y293 y294 y295 y296 y297 wx hR
        go_wp2_with fail
        go_meet
        case rel => exact hR
      case rest =>
        obtain ⟨bn, bo, bb, M, all, L, wd, rs, A7, c7, hal, hrl, hst⟩ := hcut
        obtain ⟨A8, c8, rfl⟩ := own_val hst.ws
        obtain ⟨A9, c9, rfl⟩ := own_val hst.rf
        obtain ⟨fin, hne, hkn⟩ := hst.sim.needed hst.cl 60 (by omega)
        have hfl : fin.length ≤ 60 := by have := nodup_leI fin L hkn.1 hkn.2; have := L_len hst.sim.nd hst.sim.rng; omega
        have hws := own_rd hst.ws (by omega)
        have d0 := hst.m.cell 0
        have d1 := hst.m.cell 1
        have d2 := hst.m.cell 2
        simp only [List.getElem?_toArray, List.getElem?_cons_zero, List.getElem?_cons_succ] at d0 d1 d2
        have hwl : ((rs.map (encR wd)).map wv).length = rs.length * 1 := by simp
        have hone := wv_one (rs.map (encR wd))
        have o1 := World.ownsRow_made (base := wc.heap.size) (e := 26) (size := 1) wc #[] 0 (Nat.le_refl _) (Nat.zero_le _) rfl
        have r1 := hws.chg ((Chg.refl (fun _ => False) wc).alloc (.cells #[] 26)) (fun _ _ _ => id)
        have HST := hide hst
        have HNE := hide hne
        have HKN := hide hkn
        have HWL := hide hwl
        have HONE := hide hone
        have HO1 := hide o1
        have HR1 := hide r1
        have hmx : 0 + rs.length ≤ maxLen := by simp only [maxLen]; omega
        have hmx2 : (0 + rs.length) * 8 ≤ 140737488355328 := by omega
        have hbs : wc.heap.size ≤ (wc.alloc (.cells #[] 26)).heap.size := by rw [size_alloc]; omega
        clear hst hne hkn hws hwl hone o1 r1
        go_wp2_with (at_builtin
                     refine wpList_append_rd _ rfl (.tmp 300) (.tmp 301) 46 rfl wc.heap.size 26 j0 _ 1 8 Try.underlying46 hj0 hy0 hy1 hy2 rfl (by omega) (.slice (some ⟨wc.heap.size, 0, none⟩) 0 0) 0 [] rfl (unhide HO1) _ A8 rs.length c8 ((rs.map (encR wd)).map wv) rfl (unhide HWL) (unhide HR1) (unhide HONE) hmx hmx2 hbs ?_
                     intro v3 w3 ho3 hc3 hat
                     have HO3 := hide ho3
                     have HC3 := hide (((Chg.refl (fun _ => False) wc).alloc (.cells #[] 26)).trans hc3 (fun k hk hs => by simp [Value.ownBlock] at hs; omega))
                     clear ho3 hc3 hat)
        have ho3 := unhide HO3
        rw [Nat.zero_add, List.nil_append] at ho3
        obtain ⟨A3, c3, rfl⟩ := own_val ho3
        have hst3 := (unhide HST).old (unhide HC3)
        refine (shape_sim hst3.sim hst3.rep (own_rd ho3 (by omega)) hst3.cl (fun b hb => (ho3.lt b hb).2) (by omega) (by omega) (unhide HNE) (unhide HKN)).mono ?_
        rintro e w4 ⟨X1, y1, X2, y2, rfl, hx1, hx2, hc4⟩
        have hst4 := hst3.old hc4
        have HSR := hide (shapeR_any all L rs fin 60 (n : Int) (M.now.length : Int) A7 A9 c7 c9 _ _ w4 hst4.objs (own_rd hst4.rf (by omega)) (hst4.sim.cls (by omega)) (unhide HKN).2 hst4.cl (by omega) (unhide HNE) (by omega))
        have e0 := hst4.m.cell 0
        have e1 := hst4.m.cell 1
        have e2 := hst4.m.cell 2
        simp only [List.getElem?_toArray, List.getElem?_cons_zero, List.getElem?_cons_succ] at e0 e1 e2
        have HST4 := hide hst4
        have HX1 := hide hx1
        have HX2 := hide hx2
        have HC4 := hide hc4
        clear ho3 hst3 hst4 hx1 hx2 hc4 HO3 HR1 HO1 d0 d1 d2
        go_wp2_with fail
        refine (unhide HSR).mono ?_
        rintro e w5 ⟨Y1, z1, Y2, z2, rfl, hy1', hy2', hc5⟩
        have hst5 := (unhide HST4).old hc5
        have hD : (n : Int) - (M.now.length : Int) = ((M.size - M.now.length : Nat) : Int) := by have := hst5.sz; have := hst5.sim.n; omega
        have HL := hide (fun k => left_any M g bn bo bb (w5.drewN k) (hst5.rep.chg ((Chg.refl (fun _ => False) w5).drewN k) id id id id))
        have hs1 := fun k => same_true (rs.map (refR fin)) X1 Y1 y1 z1 _ _ (w5.drewN k) (((unhide HX1).chg hc5 (fun _ _ _ => id)).chg ((Chg.refl (fun _ => False) w5).drewN k) (fun _ _ _ => id)) (hy1'.chg ((Chg.refl (fun _ => False) w5).drewN k) (fun _ _ _ => id)) (by rw [List.length_map]; omega)
        have hs2 := fun k => sameCells_true (fin.map (cellR all fin)) X2 Y2 y2 z2 _ _ (w5.drewN k) (((unhide HX2).chg hc5 (fun _ _ _ => id)).chg ((Chg.refl (fun _ => False) w5).drewN k) (fun _ _ _ => id)) (hy2'.chg ((Chg.refl (fun _ => False) w5).drewN k) (fun _ _ _ => id)) (by rw [List.length_map]; omega) (fun x hx => by
          obtain ⟨i, hi, rfl⟩ := List.mem_map.1 hx
          have := (hst5.sim.ok i ((unhide HKN).2 i hi)).pl
          simp only [cellR, List.length_map]
          omega)
        rw [List.length_map] at hs1 hs2
        have HS1 := hide hs1
        have HS2 := hide hs2
        have f1 := hst5.m.cell 1
        simp only [List.getElem?_toArray, List.getElem?_cons_zero, List.getElem?_cons_succ] at f1
        have hnow : M.now.length ≤ 500 := by have := hst5.sim.n; have := hst5.sim.s; omega
        have HST5 := hide hst5
        generalize M.size - M.now.length = D at *
        clear hst5 hs1 hs2 hy1' hy2' hc5 HSR e0 e1 e2
        go_wp2_with fail
        go_quiet ((first | (go_at_call 25; exact Calls.quiet_of (unhide HL _)) | (go_at_call 26; exact Calls.quiet_of (unhide HS1 _)) | (go_at_call 27; exact Calls.quiet_of (unhide HS2 _))))
        go_wp2_with fail
        refine ⟨⟨j + 1, bn, bo, bb, M, all, L, wd, rs, A7, c7, by go_num, by omega, by omega, by omega, (unhide HST5).old ((Chg.refl _ _).drewN nq)⟩, by simp [intOf]; omega⟩
    · obtain rfl : j = l.length := by omega
      have HST := hide hst
      clear hst
      go_wp2_with fail
      go_ret
      exact ⟨rfl, (unhide HST).ch⟩
end Go.Proofs.Ytlgkgglecgdkgaa
