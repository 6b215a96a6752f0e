/-
  Layer 19: the document's side: what follows an instruction: the function. Layer 19, the document's side: the row of how things stand, in memory. Layer 19: the document's side: how things stand everywhere: a place is stored.
-/
import Derived.Test.YtejkaalhjocmgaaDoorRb
import Derived.Deep.QuietTactic
import Derived.BigQuiet
import Derived.Test.YtejkaalhjocmgaaDoorPla
import Derived.Deep.RegionHeld3
namespace Go.Proofs.YtejkaalhjocmgaaDoor
open Go.RowKit
set_option maxHeartbeats 2000000
set_option maxRecDepth 1000000
section
variable {m : Im} {k : Nat} {s : RSt} {T : Tab}
theorem nx_next (hT : tab conB m (insAt m k) (decide (0 ≤ s.of)) s.tries.isEmpty s.has s.height = T) : nextL conB m k s = (if (insAt m k).op = 17 then [((insAt m k).a.toNat, (⟨s.of, s.has, s.height + 1, s.tries⟩ : RSt))] else []) ++ (if (insAt m k).op = 18 then [((insAt m k).a.toNat, (⟨(insAt m k).a, (insAt m k).b, 1, []⟩ : RSt))] else []) ++
    (if T.behind then [(k + 1, (⟨s.of, s.has, s.height - T.takes + T.puts, triesOf (insAt m k).op s.height s.tries⟩ : RSt))] else []) ++ (if T.there then [((insAt m k).a.toNat, (⟨s.of, s.has, s.height - T.takes + T.puts, triesOf (insAt m k).op s.height s.tries⟩ : RSt))] else []) := by
  subst hT
  rfl
theorem nx_ok (hT : tab conB m (insAt m k) (decide (0 ≤ s.of)) s.tries.isEmpty s.has s.height = T) : nextOk conB m k s = (T.holds && !decide (s.height - T.takes < floorT s.tries) && !(T.behind && decide (m.code.length ≤ k + 1))) := by
  subst hT
  rfl
theorem tr_same {op h : Int} {t : List Int} (h1 : op ≠ 14) (h2 : op ≠ 17) : triesOf op h t = t := by unfold triesOf; rw [if_neg h1, if_neg h2]
end
def NextOut (m : Im) (k : Nat) (s : RSt) (T : Nat → Prop) (w0 : World) (e : Ending) (w' : World) : Prop :=
  (nextOk conB m k s = true ∧ NextYes m k s T w0 e w') ∨ (nextOk conB m k s = false ∧ e = .returned (.tuple #[.slice none 0 0, .bool false]) ∧ Chg (fun _ => False) w0 w')
theorem tab_tk {m : Im} {i : Ins} {fn free : Bool} {has height : Int} (h : 0 ≤ i.op ∧ i.op ≤ 20) (ha : 0 ≤ i.a ∧ i.a ≤ 1048576) (hb : 0 ≤ i.b ∧ i.b ≤ 1048576) : (tab conB m i fn free has height).takes ≤ 1048577 := by
  have ht := takes_bd i.a
  obtain ⟨op, a, b⟩ := i
  dsimp only at *
  have hcase : op = 0 ∨ op = 1 ∨ op = 2 ∨ op = 3 ∨ op = 4 ∨ op = 5 ∨ op = 6 ∨ op = 7 ∨ op = 8 ∨ op = 9 ∨ op = 10 ∨ op = 11 ∨ op = 12 ∨ op = 13 ∨ op = 14 ∨ op = 15 ∨ op = 16 ∨ op = 17 ∨ op = 18 ∨ op = 19 ∨ op = 20 := by omega
  rcases hcase with rfl | rfl | rfl | rfl | rfl | rfl | rfl | rfl | rfl | rfl | rfl | rfl | rfl | rfl | rfl | rfl | rfl | rfl | rfl | rfl | rfl <;> simp [tab] <;> omega
theorem NextYes.out {m : Im} {k : Nat} {s : RSt} {T : Nat → Prop} {w0 w' : World} {e : Ending} (h : NextYes m k s T w0 e w') (ho : nextOk conB m k s = true) : NextOut m k s T w0 e w' := .inl ⟨ho, h⟩
theorem mono_out {m : Im} {k : Nat} {s : RSt} {T : Nat → Prop} {w0 : World} {c : Code} {a : Act} {w : World} (h : Code.wp Tryd.prog c (bodyPost Tryd.prog Tryd.f24 fun e w' => NextYes m k s T w0 e w') a w) (ho : nextOk conB m k s = true) : Code.wp Tryd.prog c (bodyPost Tryd.prog Tryd.f24 fun e w' => NextOut m k s T w0 e w') a w :=
  Code.wp_mono (fun e a w hq => by
    cases e with
    | normal => obtain ⟨hd, v, hr, hR⟩ := hq; exact ⟨hd, v, hr, NextYes.out hR ho⟩
    | ret => obtain ⟨hd, v, hr, hR⟩ := hq; exact ⟨hd, v, hr, NextYes.out hR ho⟩
    | panic chain => obtain ⟨hd, hR⟩ := hq; exact ⟨hd, NextYes.out hR ho⟩
    | outgrown => exact NextYes.out hq ho
    | _ => exact hq) h
theorem next_e (m : Im) (pA cA : Option Addr) (pc cc : Nat) (T0 T1 T : Nat → Prop) (w : World) (hp : Rd T0 w pA (m.pool.flatMap cstv)) (hc : Rd T1 w cA (m.code.flatMap insv)) (hpn : m.pool.length ≤ 100000) (hcn : m.code.length ≤ 900) (px : ∀ x ∈ m.pool, x.text.size ≤ 9223372036854775807) (ok : CodeOk m) (k : Nat) (hk : k < m.code.length) (s : RSt) (tv : Value) (htr : RdI T w tv s.tries) (hcap : CapOk tv) (htl : s.tries.length ≤ 900) (hh : 0 ≤ s.height ∧ s.height ≤ 1000) (he : s.tries = []) :
    Calls Tryd.prog 24 #[.agg #[.slice pA m.pool.length pc, .slice cA m.code.length cc], .int .i64 (k : Int), .agg #[.bool true, .int .i64 s.of, .int .i64 s.has, .int .i64 s.height, tv]] w fun e w' => NextOut m k s T w e w' := by
  obtain ⟨tA, tc, rfl⟩ := htr.val
  obtain ⟨h0, h20, ha0, ha1, hb0, hb1, hag⟩ := insAt_ok ok hk
  obtain ⟨bb, oo, hcA, _, hcd⟩ := code_at hc (by intro e; rw [e] at hk; simp at hk)
  subst hcA
  have hins : m.code[k]? = some (insAt m k) := by
    unfold insAt
    rw [List.getD_eq_getElem?_getD, List.getElem?_eq_getElem hk]
    rfl
  obtain ⟨i0, i1, i2⟩ := hcd k _ hins
  have hbl := hat_lt i0
  have hbl1 : bb < w.heap.size + 1 := Nat.lt_succ_of_lt hbl
  have hl0 : decide ((0 : Int) < (s.tries.length : Int)) = false := by rw [he]; rfl
  have hl1 : decide (0 < s.tries.length) = false := by rw [he]; rfl
  have hfz : floorT s.tries = 0 := by rw [he]; rfl
  have hl2 : ((s.tries.length : Int) == 0) = s.tries.isEmpty := by
    cases s.tries with
    | nil => rfl
    | cons x l => exact beq_eq_false_iff_ne.2 (by rw [List.length_cons]; omega)
  have c3 : Chg (fun _ => False) w (((w.alloc (.cells #[.slice pA m.pool.length pc, .slice (some ⟨bb, oo, none⟩) m.code.length cc] 25)).alloc (.cells #[.bool true, .int .i64 s.of, .int .i64 s.has, .int .i64 s.height, .slice tA s.tries.length tc] 37)).alloc (.cells #[.int .i64 (insAt m k).op, .int .i64 (insAt m k).a, .int .i64 (insAt m k).b] 42)) := (((Chg.refl _ w).alloc _).alloc _).alloc _
  have b1 : Blk (((w.alloc (.cells #[.slice pA m.pool.length pc, .slice (some ⟨bb, oo, none⟩) m.code.length cc] 25)).alloc (.cells #[.bool true, .int .i64 s.of, .int .i64 s.has, .int .i64 s.height, .slice tA s.tries.length tc] 37)).alloc (.cells #[.int .i64 (insAt m k).op, .int .i64 (insAt m k).a, .int .i64 (insAt m k).b] 42)) w.heap.size 25 #[.slice pA m.pool.length pc, .slice (some ⟨bb, oo, none⟩) m.code.length cc] := ((Blk.new w _ _).alloc _).alloc _
  have b2 : Blk (((w.alloc (.cells #[.slice pA m.pool.length pc, .slice (some ⟨bb, oo, none⟩) m.code.length cc] 25)).alloc (.cells #[.bool true, .int .i64 s.of, .int .i64 s.has, .int .i64 s.height, .slice tA s.tries.length tc] 37)).alloc (.cells #[.int .i64 (insAt m k).op, .int .i64 (insAt m k).a, .int .i64 (insAt m k).b] 42)) (w.heap.size + 1) 37 #[.bool true, .int .i64 s.of, .int .i64 s.has, .int .i64 s.height, .slice tA s.tries.length tc] := (Blk.new_at _ _ _ _ (by simp)).alloc _
  have b3 : Blk (((w.alloc (.cells #[.slice pA m.pool.length pc, .slice (some ⟨bb, oo, none⟩) m.code.length cc] 25)).alloc (.cells #[.bool true, .int .i64 s.of, .int .i64 s.has, .int .i64 s.height, .slice tA s.tries.length tc] 37)).alloc (.cells #[.int .i64 (insAt m k).op, .int .i64 (insAt m k).a, .int .i64 (insAt m k).b] 42)) (w.heap.size + 2) 42 #[.int .i64 (insAt m k).op, .int .i64 (insAt m k).a, .int .i64 (insAt m k).b] := Blk.new_at _ _ _ _ (by simp)
  have y0 := b2.cell 1
  have y1 := b2.cell 3
  have y2 := b2.cell 4
  have y3 := b3.cell 0
  simp only [List.getElem?_toArray, List.getElem?_cons_zero, List.getElem?_cons_succ] at y0 y1 y2 y3
  have HP := hide hp
  have HIC := hide (show (k : Int) < (m.code.length : Int) by omega)
  have hkc : (k : Int) < (m.code.length : Int) := by omega
  have HB1 := hide b1
  have HB2 := hide b2
  have HB3 := hide b3
  have HC3 := hide c3
  have HTR := hide htr
  have HCAP := hide hcap
  have HOK := hide ok
  have HOP := hide (show 0 ≤ (insAt m k).op ∧ (insAt m k).op ≤ 20 from ⟨h0, h20⟩)
  have HA := hide (show 0 ≤ (insAt m k).a ∧ (insAt m k).a ≤ 1048576 from ⟨ha0, ha1⟩)
  have HBB := hide (show 0 ≤ (insAt m k).b ∧ (insAt m k).b ≤ 1048576 from ⟨hb0, hb1⟩)
  have HEM := hide he
  clear b1 b2 b3 c3 htr hcap ok hins hcd hc hp h0 h20 ha0 ha1 hb0 hb1 hag he
  go_enter Tryd.func24, Tryd.ntmps24
  go_upto_region 2 with fail
  generalize (((w.alloc (.cells #[.slice pA m.pool.length pc, .slice (some ⟨bb, oo, none⟩) m.code.length cc] 25)).alloc (.cells #[.bool true, .int .i64 s.of, .int .i64 s.has, .int .i64 s.height, .slice tA s.tries.length tc] 37)).alloc (.cells #[.int .i64 (insAt m k).op, .int .i64 (insAt m k).a, .int .i64 (insAt m k).b] 42)) = W3 at *
  go_wp2_with fail
  go_quiet (fail)
  have b1 := (unhide HB1).drewN nq
  have b2 := (unhide HB2).drewN nq
  have b3 := (unhide HB3).drewN nq
  have c4 := (unhide HC3).drewN nq
  generalize W3.drewN nq = W4 at *
  have HD1 := hide b1
  have HD2 := hide b2
  have HD3 := hide b3
  have HC4 := hide c4
  have z0 := b3.cell 0
  simp only [List.getElem?_toArray, List.getElem?_cons_zero] at z0
  clear b1 b2 b3 c4 HB1 HB2 HB3 HC3 y0 y1 y2 y3 
  go_upto_block 0 with fail
  refine nx_all _ _ _ _ _ _ _ _ _ _ _ _ _ _ _ _ _ _ _ _ _ _ _ _ _ _ _ _ _ _ _ _ _ _ _ _ _ _ _ _ _ _ _ _ _ _ _ _ _ _ _ _ _ _ _ _ _ _ _ _ _ _ _ _ _ _ _ _ _ _ _ _ _ _ _ _ _ _ _ _ _ _ _ _ _ _ _ _ _ _ _ _ _ _ _ _ _ _ _ _ _ _ _ _ _ _ _ _ _ _ _ _ _ _ _ _ _ _ _ _ _ _ _ _ _ _ _ _ _ _ _ _ _ _ _ _ _ _ _ _ _ _ _ _ _ _ _ _ _ _ _ _ _ _ _ _ _ _ _ _ _ _ _ _ _ _ _ _ _ _ _ _ _ _ _ _ _ _ _ _ _ _ _ _ _ _ _ _ _ _ _ _ _ _ _ _ _ _ _ _ _ _ _ _ _ _ _ _ _ _ _ _ _ _ _ _ _ _ _ _ _ _ _ _ _ _ _ _ _ _ _ _ _ _ _ _ _ _ _ _ _ _ _ _ _ _ _ _ _ _ _ _ _ _ _ _ _ _ _ _ _ _ _ _ _ _ _ _ _ _ _ _ W4 m k _ _ _ m.code.length pA (some ⟨bb, oo, none⟩) pc cc T0 (decide (0 ≤ s.of)) s.tries.isEmpty s.of s.has s.height (insAt m k) _ (unhide HD1) (unhide HD2) (unhide HD3) ((unhide HP).chg (unhide HC4) (fun _ _ _ => id)) hpn px (unhide HOP) (unhide HA) (unhide HBB) hh _ ?_
  intro y45 y46 y47 y48 y49 y50 y51 y52 y53 y54 y55 y56 y57 y58 y59 y60 y61 y62 y63 y64 y65 y66 y67 y68 y69 y70 y71 y72 y73 y74 y75 y76 y77 y78 y79 y80 y81 y82 y83 y84 y85 y86 y87 y88 y89 y90 y91 y92 y93 y94 y95 y96 y97 y98 y99 y100 y101 y102 y103 y104 y105 y106 y107 y108 y109 y110 y111 y112 y113 y114 y115 y116 y117 y118 y119 y120 y121 y122 y123 y124 y125 y126 y127 y128 y129 y130 y131 y132 y133 y134 y135 y136 y137 y138 y139 y140 y141 y142 y143 y144 y145 y146 y147 y148 y149 y150 y151 y152 y153 y154 y155 y156 y157 y158 y159 y160 y161 y162 y163 y164 y165 y166 y167 y168 y169 y170 y171 y172 y173 y174 y175 y176 W5 hch
  obtain ⟨TB, hTB⟩ : ∃ TB, tab conB m (insAt m k) (decide (0 ≤ s.of)) s.tries.isEmpty s.has s.height = TB := ⟨_, rfl⟩
  rw [hTB]
  have hbd := tab_bd (con := conB) (m := m) (unhide HOP).1 (unhide HOP).2 (unhide HA).1 (unhide HBB).1 (decide (0 ≤ s.of)) s.tries.isEmpty s.has s.height
  rw [hTB] at hbd
  have b1 := (unhide HD1).chg hch id
  have b2 := (unhide HD2).chg hch id
  have b3 := (unhide HD3).chg hch id
  have c5 := (unhide HC4).trans' hch
  have u1 := b1.cell 1
  have u3 := b2.cell 3
  simp only [List.getElem?_toArray, List.getElem?_cons_zero, List.getElem?_cons_succ] at u1 u3
  have htk : TB.takes ≤ 1048577 := by rw [← hTB]; exact tab_tk (unhide HOP) (unhide HA) (unhide HBB)
  have HST := hide (show NxSt m k s (.slice tA s.tries.length tc) T pA (some ⟨bb, oo, none⟩) pc cc m.code.length _ _ _ w W5 from ⟨c5, b1, b2, b3, (unhide HTR).chg c5 (fun _ _ _ => id), unhide HCAP, htl, by omega, unhide HA, hh⟩)
  have HOK2 := hide (nx_ok hTB)
  have HNX := hide (nx_next hTB)
  have HBD := hide hbd
  have t0 := hbd.1
  have t1 := hbd.2.1
  have t2 := hbd.2.2.1
  clear hbd hTB b1 b2 b3 hch
  have HC5 := hide c5
  clear c5
  obtain ⟨takes, puts, holds, beh, the⟩ := TB
  dsimp only at *
  go_upto_region 48 with fail
  rename_i K2 hK2 K1 hK1
  have HK := hide hK2
  clear hK2
  cases holds with
  | false =>
    have HN := hide (show nextOk conB m k s = false by rw [unhide HOK2]; rfl)
    clear HK
    go_wp2_with fail
    go_ret2
    exact .inr ⟨unhide HN, rfl, unhide HC5⟩
  | true =>
    by_cases hlow : s.height - takes < 0
    · have hd : decide (s.height - takes < 0) = true := decide_eq_true hlow
      have HN := hide (show nextOk conB m k s = false by rw [unhide HOK2, hfz, decide_eq_true hlow]; rfl)
      clear HK
      go_wp2_with fail
      go_ret2
      exact .inr ⟨unhide HN, rfl, unhide HC5⟩
    · have hd : decide (s.height - takes < 0) = false := decide_eq_false hlow
      have hw1 : IntKind.i64.wrap ((k : Int) + 1) = (k : Int) + 1 := IntWalk.i64_in _ (by omega)
      by_cases hfar : beh = true ∧ m.code.length ≤ k + 1
      · obtain ⟨rfl, hfar⟩ := hfar
        have hd2 : decide ((m.code.length : Int) ≤ (k : Int) + 1) = true := decide_eq_true (by omega)
        have HN := hide (show nextOk conB m k s = false by rw [unhide HOK2, hfz, decide_eq_false hlow, decide_eq_true hfar]; rfl)
        clear HK
        go_wp2_with fail
        go_ret2
        exact .inr ⟨unhide HN, rfl, unhide HC5⟩
      · have HY := hide (show nextOk conB m k s = true by
          rw [unhide HOK2, hfz, decide_eq_false hlow]
          cases beh with
          | false => rfl
          | true => rw [decide_eq_false (fun e => hfar ⟨rfl, e⟩)]; rfl)
        have hd2 : beh = true → decide ((m.code.length : Int) ≤ (k : Int) + 1) = false := fun e => decide_eq_false (fun e2 => hfar ⟨e, by omega⟩)
        have htk0 : 0 ≤ takes ∧ takes ≤ 2000000 := by omega
        have hpt0 : 0 ≤ puts ∧ puts ≤ 10 := by omega
        by_cases h14 : (insAt m k).op = 14
        · obtain ⟨hb14, ht14, hh14⟩ := (unhide HBD).2.2.2.2.2.2.1 h14
          subst hb14 ht14
          have hd3 := hd2 rfl
          have HH14 := hide hh14
          have HO14 := hide h14
          clear hd2 hh14 h14
          go_wp2_with fail
          refine unhide HK _ _ ?_
          exfalso
          have h1 := unhide HH14
          have h2 : s.tries.isEmpty = true := by rw [unhide HEM]; rfl
          rw [h2] at h1
          cases h1
        · by_cases h17 : (insAt m k).op = 17
          · obtain ⟨hz1, hz2, hz3, hb17, ht17⟩ := (unhide HBD).2.2.2.2.1 h17
            subst hb17 ht17
            have HO17 := hide h17
            clear hz1 hz2 hz3 h17
            have hd3 := hd2 rfl
            clear hd2
            go_wp2_with fail
            refine unhide HK _ _ ?_
            exact mono_out (nt_n17 _ _ _ _ _ _ _ _ _ _ _ _ _ _ _ _ _ _ _ _ _ _ _ _ _ _ _ _ _ _ _ _ _ _ _ _ _ _ _ _ _ _ _ _ _ _ _ _ _ _ _ _ _ _ _ _ _ _ _ _ _ _ _ _ _ _ _ _ _ _ _ _ _ _ _ _ _ _ _ _ _ _ _ _ _ _ _ _ _ _ _ _ _ _ _ _ _ _ _ _ _ _ _ _ _ _ _ _ _ _ _ _ _ _ _ _ _ _ _ _ _ _ _ _ _ _ _ _ _ _ _ _ _ _ _ _ _ _ _ _ _ _ _ _ _ _ _ _ _ _ _ _ _ _ _ _ _ _ _ _ _ _ _ _ _ _ _ _ _ _ _ _ _ _ _ _ _ _ _ _ _ _ _ _ _ _ _ _ _ _ _ _ _ _ _ _ _ _ _ _ _ _ _ _ _ _ _ _ _ _ _ _ _ _ _ _ _ _ _ _ _ _ _ _ _ _ _ _ _ _ _ _ _ _ _ _ _ _ _ _ _ _ _ _ _ _ _ _ _ _ _ _ _ _ _ _ _ _ _ _ _ _ _ _ _ _ _ _ _ _ _ _ _ _ _ _ m k s _ T pA (some ⟨bb, oo, none⟩) pc cc m.code.length _ _ _ w W5 takes puts (unhide HST) htk0 hpt0 (unhide HO17) (by have h17 := unhide HO17; rw [unhide HNX, if_pos h17, if_neg (by rw [h17]; decide), h17]; rfl)) (unhide HY)
          · by_cases h18 : (insAt m k).op = 18
            · obtain ⟨hz1, hz2, hz3, hb18, ht18⟩ := (unhide HBD).2.2.2.2.2.1 h18
              subst hb18 ht18
              have HO18 := hide h18
              clear hz1 hz2 hz3 h18
              have hd3 := hd2 rfl
              clear hd2
              go_wp2_with fail
              refine unhide HK _ _ ?_
              exact mono_out (nt_n18 _ _ _ _ _ _ _ _ _ _ _ _ _ _ _ _ _ _ _ _ _ _ _ _ _ _ _ _ _ _ _ _ _ _ _ _ _ _ _ _ _ _ _ _ _ _ _ _ _ _ _ _ _ _ _ _ _ _ _ _ _ _ _ _ _ _ _ _ _ _ _ _ _ _ _ _ _ _ _ _ _ _ _ _ _ _ _ _ _ _ _ _ _ _ _ _ _ _ _ _ _ _ _ _ _ _ _ _ _ _ _ _ _ _ _ _ _ _ _ _ _ _ _ _ _ _ _ _ _ _ _ _ _ _ _ _ _ _ _ _ _ _ _ _ _ _ _ _ _ _ _ _ _ _ _ _ _ _ _ _ _ _ _ _ _ _ _ _ _ _ _ _ _ _ _ _ _ _ _ _ _ _ _ _ _ _ _ _ _ _ _ _ _ _ _ _ _ _ _ _ _ _ _ _ _ _ _ _ _ _ _ _ _ _ _ _ _ _ _ _ _ _ _ _ _ _ _ _ _ _ _ _ _ _ _ _ _ _ _ _ _ _ _ _ _ _ _ _ _ _ _ _ _ _ _ _ _ _ _ _ _ _ _ _ _ _ _ _ _ _ _ _ _ _ _ _ m k s _ T pA (some ⟨bb, oo, none⟩) pc cc m.code.length _ _ _ w W5 takes puts (unhide HST) htk0 hpt0 (unhide HO18) (by have h18 := unhide HO18; rw [unhide HNX, if_neg (by rw [h18]; decide), if_pos h18, h18]; rfl)) (unhide HY)
            · cases beh with
              | false =>
                clear hd2
                go_wp2_with fail
                refine unhide HK _ _ ?_
                cases the with
                | false => exact mono_out (nt_ff _ _ _ _ _ _ _ _ _ _ _ _ _ _ _ _ _ _ _ _ _ _ _ _ _ _ _ _ _ _ _ _ _ _ _ _ _ _ _ _ _ _ _ _ _ _ _ _ _ _ _ _ _ _ _ _ _ _ _ _ _ _ _ _ _ _ _ _ _ _ _ _ _ _ _ _ _ _ _ _ _ _ _ _ _ _ _ _ _ _ _ _ _ _ _ _ _ _ _ _ _ _ _ _ _ _ _ _ _ _ _ _ _ _ _ _ _ _ _ _ _ _ _ _ _ _ _ _ _ _ _ _ _ _ _ _ _ _ _ _ _ _ _ _ _ _ _ _ _ _ _ _ _ _ _ _ _ _ _ _ _ _ _ _ _ _ _ _ _ _ _ _ _ _ _ _ _ _ _ _ _ _ _ _ _ _ _ _ _ _ _ _ _ _ _ _ _ _ _ _ _ _ _ _ _ _ _ _ _ _ _ _ _ _ _ _ _ _ _ _ _ _ _ _ _ _ _ _ _ _ _ _ _ _ _ _ _ _ _ _ _ _ _ _ _ _ _ _ _ _ _ _ _ _ _ _ _ _ _ _ _ _ _ _ _ _ _ _ _ _ _ _ _ _ _ _ m k s _ T pA (some ⟨bb, oo, none⟩) pc cc m.code.length _ _ _ w W5 takes puts (unhide HST) htk0 hpt0 ⟨h14, h17, h18⟩ (by rw [unhide HNX, if_neg h17, if_neg h18, tr_same h14 h17]; rfl)) (unhide HY)
                | true => exact mono_out (nt_ft _ _ _ _ _ _ _ _ _ _ _ _ _ _ _ _ _ _ _ _ _ _ _ _ _ _ _ _ _ _ _ _ _ _ _ _ _ _ _ _ _ _ _ _ _ _ _ _ _ _ _ _ _ _ _ _ _ _ _ _ _ _ _ _ _ _ _ _ _ _ _ _ _ _ _ _ _ _ _ _ _ _ _ _ _ _ _ _ _ _ _ _ _ _ _ _ _ _ _ _ _ _ _ _ _ _ _ _ _ _ _ _ _ _ _ _ _ _ _ _ _ _ _ _ _ _ _ _ _ _ _ _ _ _ _ _ _ _ _ _ _ _ _ _ _ _ _ _ _ _ _ _ _ _ _ _ _ _ _ _ _ _ _ _ _ _ _ _ _ _ _ _ _ _ _ _ _ _ _ _ _ _ _ _ _ _ _ _ _ _ _ _ _ _ _ _ _ _ _ _ _ _ _ _ _ _ _ _ _ _ _ _ _ _ _ _ _ _ _ _ _ _ _ _ _ _ _ _ _ _ _ _ _ _ _ _ _ _ _ _ _ _ _ _ _ _ _ _ _ _ _ _ _ _ _ _ _ _ _ _ _ _ _ _ _ _ _ _ _ _ _ _ _ _ _ _ m k s _ T pA (some ⟨bb, oo, none⟩) pc cc m.code.length _ _ _ w W5 takes puts (unhide HST) htk0 hpt0 ⟨h14, h17, h18⟩ (by rw [unhide HNX, if_neg h17, if_neg h18, tr_same h14 h17]; rfl)) (unhide HY)
              | true =>
                have hd3 := hd2 rfl
                clear hd2
                go_wp2_with fail
                refine unhide HK _ _ ?_
                cases the with
                | false => exact mono_out (nt_tf _ _ _ _ _ _ _ _ _ _ _ _ _ _ _ _ _ _ _ _ _ _ _ _ _ _ _ _ _ _ _ _ _ _ _ _ _ _ _ _ _ _ _ _ _ _ _ _ _ _ _ _ _ _ _ _ _ _ _ _ _ _ _ _ _ _ _ _ _ _ _ _ _ _ _ _ _ _ _ _ _ _ _ _ _ _ _ _ _ _ _ _ _ _ _ _ _ _ _ _ _ _ _ _ _ _ _ _ _ _ _ _ _ _ _ _ _ _ _ _ _ _ _ _ _ _ _ _ _ _ _ _ _ _ _ _ _ _ _ _ _ _ _ _ _ _ _ _ _ _ _ _ _ _ _ _ _ _ _ _ _ _ _ _ _ _ _ _ _ _ _ _ _ _ _ _ _ _ _ _ _ _ _ _ _ _ _ _ _ _ _ _ _ _ _ _ _ _ _ _ _ _ _ _ _ _ _ _ _ _ _ _ _ _ _ _ _ _ _ _ _ _ _ _ _ _ _ _ _ _ _ _ _ _ _ _ _ _ _ _ _ _ _ _ _ _ _ _ _ _ _ _ _ _ _ _ _ _ _ _ _ _ _ _ _ _ _ _ _ _ _ _ _ _ _ _ m k s _ T pA (some ⟨bb, oo, none⟩) pc cc m.code.length _ _ _ w W5 takes puts (unhide HST) htk0 hpt0 ⟨h14, h17, h18⟩ (by rw [unhide HNX, if_neg h17, if_neg h18, tr_same h14 h17]; rfl)) (unhide HY)
                | true => exact mono_out (nt_tt _ _ _ _ _ _ _ _ _ _ _ _ _ _ _ _ _ _ _ _ _ _ _ _ _ _ _ _ _ _ _ _ _ _ _ _ _ _ _ _ _ _ _ _ _ _ _ _ _ _ _ _ _ _ _ _ _ _ _ _ _ _ _ _ _ _ _ _ _ _ _ _ _ _ _ _ _ _ _ _ _ _ _ _ _ _ _ _ _ _ _ _ _ _ _ _ _ _ _ _ _ _ _ _ _ _ _ _ _ _ _ _ _ _ _ _ _ _ _ _ _ _ _ _ _ _ _ _ _ _ _ _ _ _ _ _ _ _ _ _ _ _ _ _ _ _ _ _ _ _ _ _ _ _ _ _ _ _ _ _ _ _ _ _ _ _ _ _ _ _ _ _ _ _ _ _ _ _ _ _ _ _ _ _ _ _ _ _ _ _ _ _ _ _ _ _ _ _ _ _ _ _ _ _ _ _ _ _ _ _ _ _ _ _ _ _ _ _ _ _ _ _ _ _ _ _ _ _ _ _ _ _ _ _ _ _ _ _ _ _ _ _ _ _ _ _ _ _ _ _ _ _ _ _ _ _ _ _ _ _ _ _ _ _ _ _ _ _ _ _ _ _ _ _ _ _ m k s _ T pA (some ⟨bb, oo, none⟩) pc cc m.code.length _ _ _ w W5 takes puts (unhide HST) htk0 hpt0 ⟨h14, h17, h18⟩ (by rw [unhide HNX, if_neg h17, if_neg h18, tr_same h14 h17]; rfl)) (unhide HY)
theorem next_n (m : Im) (pA cA : Option Addr) (pc cc : Nat) (T0 T1 T : Nat → Prop) (w : World) (hp : Rd T0 w pA (m.pool.flatMap cstv)) (hc : Rd T1 w cA (m.code.flatMap insv)) (hpn : m.pool.length ≤ 100000) (hcn : m.code.length ≤ 900) (px : ∀ x ∈ m.pool, x.text.size ≤ 9223372036854775807) (ok : CodeOk m) (k : Nat) (hk : k < m.code.length) (s : RSt) (tv : Value) (htr : RdI T w tv s.tries) (hcap : CapOk tv) (htl : s.tries.length ≤ 900) (hh : 0 ≤ s.height ∧ s.height ≤ 1000) (he : s.tries ≠ []) :
    Calls Tryd.prog 24 #[.agg #[.slice pA m.pool.length pc, .slice cA m.code.length cc], .int .i64 (k : Int), .agg #[.bool true, .int .i64 s.of, .int .i64 s.has, .int .i64 s.height, tv]] w fun e w' => NextOut m k s T w e w' := by
  obtain ⟨tA, tc, rfl⟩ := htr.val
  obtain ⟨h0, h20, ha0, ha1, hb0, hb1, hag⟩ := insAt_ok ok hk
  obtain ⟨bb, oo, hcA, _, hcd⟩ := code_at hc (by intro e; rw [e] at hk; simp at hk)
  subst hcA
  have hins : m.code[k]? = some (insAt m k) := by
    unfold insAt
    rw [List.getD_eq_getElem?_getD, List.getElem?_eq_getElem hk]
    rfl
  obtain ⟨i0, i1, i2⟩ := hcd k _ hins
  have hbl := hat_lt i0
  have hbl1 : bb < w.heap.size + 1 := Nat.lt_succ_of_lt hbl
  have hlp : 0 < s.tries.length := List.length_pos_iff.2 he
  have hl0 : decide ((0 : Int) < (s.tries.length : Int)) = true := decide_eq_true (by omega)
  have hl1 : decide (0 < s.tries.length) = true := decide_eq_true hlp
  obtain ⟨tb, to_, htA, _, htc⟩ := htr.flat he
  subst htA
  have hfl1 := htc (s.tries.length - 1) (by omega)
  have hfl2 : s.tries.getD (s.tries.length - 1) 0 = floorT s.tries := by
    unfold floorT
    rw [List.getLast?_eq_getElem?, List.getD_eq_getElem?_getD]
  rw [hfl2] at hfl1
  clear htc hfl2
  have hl2 : ((s.tries.length : Int) == 0) = s.tries.isEmpty := by
    cases s.tries with
    | nil => rfl
    | cons x l => exact beq_eq_false_iff_ne.2 (by rw [List.length_cons]; omega)
  have c3 : Chg (fun _ => False) w (((w.alloc (.cells #[.slice pA m.pool.length pc, .slice (some ⟨bb, oo, none⟩) m.code.length cc] 25)).alloc (.cells #[.bool true, .int .i64 s.of, .int .i64 s.has, .int .i64 s.height, .slice (some ⟨tb, to_, none⟩) s.tries.length tc] 37)).alloc (.cells #[.int .i64 (insAt m k).op, .int .i64 (insAt m k).a, .int .i64 (insAt m k).b] 42)) := (((Chg.refl _ w).alloc _).alloc _).alloc _
  have b1 : Blk (((w.alloc (.cells #[.slice pA m.pool.length pc, .slice (some ⟨bb, oo, none⟩) m.code.length cc] 25)).alloc (.cells #[.bool true, .int .i64 s.of, .int .i64 s.has, .int .i64 s.height, .slice (some ⟨tb, to_, none⟩) s.tries.length tc] 37)).alloc (.cells #[.int .i64 (insAt m k).op, .int .i64 (insAt m k).a, .int .i64 (insAt m k).b] 42)) w.heap.size 25 #[.slice pA m.pool.length pc, .slice (some ⟨bb, oo, none⟩) m.code.length cc] := ((Blk.new w _ _).alloc _).alloc _
  have b2 : Blk (((w.alloc (.cells #[.slice pA m.pool.length pc, .slice (some ⟨bb, oo, none⟩) m.code.length cc] 25)).alloc (.cells #[.bool true, .int .i64 s.of, .int .i64 s.has, .int .i64 s.height, .slice (some ⟨tb, to_, none⟩) s.tries.length tc] 37)).alloc (.cells #[.int .i64 (insAt m k).op, .int .i64 (insAt m k).a, .int .i64 (insAt m k).b] 42)) (w.heap.size + 1) 37 #[.bool true, .int .i64 s.of, .int .i64 s.has, .int .i64 s.height, .slice (some ⟨tb, to_, none⟩) s.tries.length tc] := (Blk.new_at _ _ _ _ (by simp)).alloc _
  have b3 : Blk (((w.alloc (.cells #[.slice pA m.pool.length pc, .slice (some ⟨bb, oo, none⟩) m.code.length cc] 25)).alloc (.cells #[.bool true, .int .i64 s.of, .int .i64 s.has, .int .i64 s.height, .slice (some ⟨tb, to_, none⟩) s.tries.length tc] 37)).alloc (.cells #[.int .i64 (insAt m k).op, .int .i64 (insAt m k).a, .int .i64 (insAt m k).b] 42)) (w.heap.size + 2) 42 #[.int .i64 (insAt m k).op, .int .i64 (insAt m k).a, .int .i64 (insAt m k).b] := Blk.new_at _ _ _ _ (by simp)
  have q0 := (c3.cell (p := ⟨tb, to_ + (s.tries.length - 1), none⟩) (hat_lt hfl1) id).trans hfl1
  have tbl := hat_lt q0
  have y0 := b2.cell 1
  have y1 := b2.cell 3
  have y2 := b2.cell 4
  have y3 := b3.cell 0
  simp only [List.getElem?_toArray, List.getElem?_cons_zero, List.getElem?_cons_succ] at y0 y1 y2 y3
  have HP := hide hp
  have HIC := hide (show (k : Int) < (m.code.length : Int) by omega)
  have hkc : (k : Int) < (m.code.length : Int) := by omega
  have HB1 := hide b1
  have HB2 := hide b2
  have HB3 := hide b3
  have HC3 := hide c3
  have HTR := hide htr
  have HCAP := hide hcap
  have HOK := hide ok
  have HOP := hide (show 0 ≤ (insAt m k).op ∧ (insAt m k).op ≤ 20 from ⟨h0, h20⟩)
  have HA := hide (show 0 ≤ (insAt m k).a ∧ (insAt m k).a ≤ 1048576 from ⟨ha0, ha1⟩)
  have HBB := hide (show 0 ≤ (insAt m k).b ∧ (insAt m k).b ≤ 1048576 from ⟨hb0, hb1⟩)
  have HEM := hide he
  clear b1 b2 b3 c3 htr hcap ok hins hcd hc hp h0 h20 ha0 ha1 hb0 hb1 hag he
  go_enter Tryd.func24, Tryd.ntmps24
  go_upto_region 2 with fail
  generalize (((w.alloc (.cells #[.slice pA m.pool.length pc, .slice (some ⟨bb, oo, none⟩) m.code.length cc] 25)).alloc (.cells #[.bool true, .int .i64 s.of, .int .i64 s.has, .int .i64 s.height, .slice (some ⟨tb, to_, none⟩) s.tries.length tc] 37)).alloc (.cells #[.int .i64 (insAt m k).op, .int .i64 (insAt m k).a, .int .i64 (insAt m k).b] 42)) = W3 at *
  go_wp2_with fail
  go_quiet (fail)
  have b1 := (unhide HB1).drewN nq
  have b2 := (unhide HB2).drewN nq
  have b3 := (unhide HB3).drewN nq
  have c4 := (unhide HC3).drewN nq
  generalize W3.drewN nq = W4 at *
  have HD1 := hide b1
  have HD2 := hide b2
  have HD3 := hide b3
  have HC4 := hide c4
  have z0 := b3.cell 0
  simp only [List.getElem?_toArray, List.getElem?_cons_zero] at z0
  clear b1 b2 b3 c4 HB1 HB2 HB3 HC3 y0 y1 y2 y3 q0
  go_upto_block 0 with fail
  refine nx_all _ _ _ _ _ _ _ _ _ _ _ _ _ _ _ _ _ _ _ _ _ _ _ _ _ _ _ _ _ _ _ _ _ _ _ _ _ _ _ _ _ _ _ _ _ _ _ _ _ _ _ _ _ _ _ _ _ _ _ _ _ _ _ _ _ _ _ _ _ _ _ _ _ _ _ _ _ _ _ _ _ _ _ _ _ _ _ _ _ _ _ _ _ _ _ _ _ _ _ _ _ _ _ _ _ _ _ _ _ _ _ _ _ _ _ _ _ _ _ _ _ _ _ _ _ _ _ _ _ _ _ _ _ _ _ _ _ _ _ _ _ _ _ _ _ _ _ _ _ _ _ _ _ _ _ _ _ _ _ _ _ _ _ _ _ _ _ _ _ _ _ _ _ _ _ _ _ _ _ _ _ _ _ _ _ _ _ _ _ _ _ _ _ _ _ _ _ _ _ _ _ _ _ _ _ _ _ _ _ _ _ _ _ _ _ _ _ _ _ _ _ _ _ _ _ _ _ _ _ _ _ _ _ _ _ _ _ _ _ _ _ _ _ _ _ _ _ _ _ _ _ _ _ _ _ _ _ _ _ _ _ _ _ _ _ _ _ _ _ _ _ _ W4 m k _ _ _ m.code.length pA (some ⟨bb, oo, none⟩) pc cc T0 (decide (0 ≤ s.of)) s.tries.isEmpty s.of s.has s.height (insAt m k) _ (unhide HD1) (unhide HD2) (unhide HD3) ((unhide HP).chg (unhide HC4) (fun _ _ _ => id)) hpn px (unhide HOP) (unhide HA) (unhide HBB) hh _ ?_
  intro y45 y46 y47 y48 y49 y50 y51 y52 y53 y54 y55 y56 y57 y58 y59 y60 y61 y62 y63 y64 y65 y66 y67 y68 y69 y70 y71 y72 y73 y74 y75 y76 y77 y78 y79 y80 y81 y82 y83 y84 y85 y86 y87 y88 y89 y90 y91 y92 y93 y94 y95 y96 y97 y98 y99 y100 y101 y102 y103 y104 y105 y106 y107 y108 y109 y110 y111 y112 y113 y114 y115 y116 y117 y118 y119 y120 y121 y122 y123 y124 y125 y126 y127 y128 y129 y130 y131 y132 y133 y134 y135 y136 y137 y138 y139 y140 y141 y142 y143 y144 y145 y146 y147 y148 y149 y150 y151 y152 y153 y154 y155 y156 y157 y158 y159 y160 y161 y162 y163 y164 y165 y166 y167 y168 y169 y170 y171 y172 y173 y174 y175 y176 W5 hch
  obtain ⟨TB, hTB⟩ : ∃ TB, tab conB m (insAt m k) (decide (0 ≤ s.of)) s.tries.isEmpty s.has s.height = TB := ⟨_, rfl⟩
  rw [hTB]
  have hbd := tab_bd (con := conB) (m := m) (unhide HOP).1 (unhide HOP).2 (unhide HA).1 (unhide HBB).1 (decide (0 ≤ s.of)) s.tries.isEmpty s.has s.height
  rw [hTB] at hbd
  have b1 := (unhide HD1).chg hch id
  have b2 := (unhide HD2).chg hch id
  have b3 := (unhide HD3).chg hch id
  have c5 := (unhide HC4).trans' hch
  have u1 := b1.cell 1
  have u3 := b2.cell 3
  simp only [List.getElem?_toArray, List.getElem?_cons_zero, List.getElem?_cons_succ] at u1 u3
  have htk : TB.takes ≤ 1048577 := by rw [← hTB]; exact tab_tk (unhide HOP) (unhide HA) (unhide HBB)
  have HST := hide (show NxSt m k s (.slice (some ⟨tb, to_, none⟩) s.tries.length tc) T pA (some ⟨bb, oo, none⟩) pc cc m.code.length _ _ _ w W5 from ⟨c5, b1, b2, b3, (unhide HTR).chg c5 (fun _ _ _ => id), unhide HCAP, htl, by omega, unhide HA, hh⟩)
  have HOK2 := hide (nx_ok hTB)
  have HNX := hide (nx_next hTB)
  have HBD := hide hbd
  have t0 := hbd.1
  have t1 := hbd.2.1
  have t2 := hbd.2.2.1
  clear hbd hTB b1 b2 b3 hch
  have HC5 := hide c5
  clear c5
  obtain ⟨takes, puts, holds, beh, the⟩ := TB
  dsimp only at *
  go_upto_region 48 with fail
  rename_i K2 hK2 K1 hK1
  have HK := hide hK2
  clear hK2
  cases holds with
  | false =>
    have HN := hide (show nextOk conB m k s = false by rw [unhide HOK2]; rfl)
    clear HK
    go_wp2_with fail
    go_ret2
    exact .inr ⟨unhide HN, rfl, unhide HC5⟩
  | true =>
    by_cases hlow : s.height - takes < (floorT s.tries)
    · have hd : decide (s.height - takes < (floorT s.tries)) = true := decide_eq_true hlow
      have HN := hide (show nextOk conB m k s = false by rw [unhide HOK2, decide_eq_true hlow]; rfl)
      clear HK
      go_wp2_with fail
      go_ret2
      exact .inr ⟨unhide HN, rfl, unhide HC5⟩
    · have hd : decide (s.height - takes < (floorT s.tries)) = false := decide_eq_false hlow
      have hw1 : IntKind.i64.wrap ((k : Int) + 1) = (k : Int) + 1 := IntWalk.i64_in _ (by omega)
      by_cases hfar : beh = true ∧ m.code.length ≤ k + 1
      · obtain ⟨rfl, hfar⟩ := hfar
        have hd2 : decide ((m.code.length : Int) ≤ (k : Int) + 1) = true := decide_eq_true (by omega)
        have HN := hide (show nextOk conB m k s = false by rw [unhide HOK2, decide_eq_false hlow, decide_eq_true hfar]; rfl)
        clear HK
        go_wp2_with fail
        go_ret2
        exact .inr ⟨unhide HN, rfl, unhide HC5⟩
      · have HY := hide (show nextOk conB m k s = true by
          rw [unhide HOK2, decide_eq_false hlow]
          cases beh with
          | false => rfl
          | true => rw [decide_eq_false (fun e => hfar ⟨rfl, e⟩)]; rfl)
        have hd2 : beh = true → decide ((m.code.length : Int) ≤ (k : Int) + 1) = false := fun e => decide_eq_false (fun e2 => hfar ⟨e, by omega⟩)
        have htk0 : 0 ≤ takes ∧ takes ≤ 2000000 := by omega
        have hpt0 : 0 ≤ puts ∧ puts ≤ 10 := by omega
        by_cases h14 : (insAt m k).op = 14
        · obtain ⟨hb14, ht14, hh14⟩ := (unhide HBD).2.2.2.2.2.2.1 h14
          subst hb14 ht14
          have hd3 := hd2 rfl
          have HH14 := hide hh14
          have HO14 := hide h14
          clear hd2 hh14 h14
          go_wp2_with fail
          refine unhide HK _ _ ?_
          exact mono_out (nt_n14 _ _ _ _ _ _ _ _ _ _ _ _ _ _ _ _ _ _ _ _ _ _ _ _ _ _ _ _ _ _ _ _ _ _ _ _ _ _ _ _ _ _ _ _ _ _ _ _ _ _ _ _ _ _ _ _ _ _ _ _ _ _ _ _ _ _ _ _ _ _ _ _ _ _ _ _ _ _ _ _ _ _ _ _ _ _ _ _ _ _ _ _ _ _ _ _ _ _ _ _ _ _ _ _ _ _ _ _ _ _ _ _ _ _ _ _ _ _ _ _ _ _ _ _ _ _ _ _ _ _ _ _ _ _ _ _ _ _ _ _ _ _ _ _ _ _ _ _ _ _ _ _ _ _ _ _ _ _ _ _ _ _ _ _ _ _ _ _ _ _ _ _ _ _ _ _ _ _ _ _ _ _ _ _ _ _ _ _ _ _ _ _ _ _ _ _ _ _ _ _ _ _ _ _ _ _ _ _ _ _ _ _ _ _ _ _ _ _ _ _ _ _ _ _ _ _ _ _ _ _ _ _ _ _ _ _ _ _ _ _ _ _ _ _ _ _ _ _ _ _ _ _ _ _ _ _ _ _ _ _ _ _ _ _ _ _ _ _ _ _ _ _ _ _ _ _ m k s _ T pA (some ⟨bb, oo, none⟩) pc cc m.code.length _ _ _ w W5 takes puts (unhide HST) htk0 hpt0 (unhide HO14) (unhide HEM) (by have h14 := unhide HO14; rw [unhide HNX, if_neg (by rw [h14]; decide), if_neg (by rw [h14]; decide), h14]; rfl)) (unhide HY)
        · by_cases h17 : (insAt m k).op = 17
          · obtain ⟨hz1, hz2, hz3, hb17, ht17⟩ := (unhide HBD).2.2.2.2.1 h17
            subst hb17 ht17
            have HO17 := hide h17
            clear hz1 hz2 hz3 h17
            have hd3 := hd2 rfl
            clear hd2
            go_wp2_with fail
            refine unhide HK _ _ ?_
            exact mono_out (nt_n17 _ _ _ _ _ _ _ _ _ _ _ _ _ _ _ _ _ _ _ _ _ _ _ _ _ _ _ _ _ _ _ _ _ _ _ _ _ _ _ _ _ _ _ _ _ _ _ _ _ _ _ _ _ _ _ _ _ _ _ _ _ _ _ _ _ _ _ _ _ _ _ _ _ _ _ _ _ _ _ _ _ _ _ _ _ _ _ _ _ _ _ _ _ _ _ _ _ _ _ _ _ _ _ _ _ _ _ _ _ _ _ _ _ _ _ _ _ _ _ _ _ _ _ _ _ _ _ _ _ _ _ _ _ _ _ _ _ _ _ _ _ _ _ _ _ _ _ _ _ _ _ _ _ _ _ _ _ _ _ _ _ _ _ _ _ _ _ _ _ _ _ _ _ _ _ _ _ _ _ _ _ _ _ _ _ _ _ _ _ _ _ _ _ _ _ _ _ _ _ _ _ _ _ _ _ _ _ _ _ _ _ _ _ _ _ _ _ _ _ _ _ _ _ _ _ _ _ _ _ _ _ _ _ _ _ _ _ _ _ _ _ _ _ _ _ _ _ _ _ _ _ _ _ _ _ _ _ _ _ _ _ _ _ _ _ _ _ _ _ _ _ _ _ _ _ _ m k s _ T pA (some ⟨bb, oo, none⟩) pc cc m.code.length _ _ _ w W5 takes puts (unhide HST) htk0 hpt0 (unhide HO17) (by have h17 := unhide HO17; rw [unhide HNX, if_pos h17, if_neg (by rw [h17]; decide), h17]; rfl)) (unhide HY)
          · by_cases h18 : (insAt m k).op = 18
            · obtain ⟨hz1, hz2, hz3, hb18, ht18⟩ := (unhide HBD).2.2.2.2.2.1 h18
              subst hb18 ht18
              have HO18 := hide h18
              clear hz1 hz2 hz3 h18
              have hd3 := hd2 rfl
              clear hd2
              go_wp2_with fail
              refine unhide HK _ _ ?_
              exact mono_out (nt_n18 _ _ _ _ _ _ _ _ _ _ _ _ _ _ _ _ _ _ _ _ _ _ _ _ _ _ _ _ _ _ _ _ _ _ _ _ _ _ _ _ _ _ _ _ _ _ _ _ _ _ _ _ _ _ _ _ _ _ _ _ _ _ _ _ _ _ _ _ _ _ _ _ _ _ _ _ _ _ _ _ _ _ _ _ _ _ _ _ _ _ _ _ _ _ _ _ _ _ _ _ _ _ _ _ _ _ _ _ _ _ _ _ _ _ _ _ _ _ _ _ _ _ _ _ _ _ _ _ _ _ _ _ _ _ _ _ _ _ _ _ _ _ _ _ _ _ _ _ _ _ _ _ _ _ _ _ _ _ _ _ _ _ _ _ _ _ _ _ _ _ _ _ _ _ _ _ _ _ _ _ _ _ _ _ _ _ _ _ _ _ _ _ _ _ _ _ _ _ _ _ _ _ _ _ _ _ _ _ _ _ _ _ _ _ _ _ _ _ _ _ _ _ _ _ _ _ _ _ _ _ _ _ _ _ _ _ _ _ _ _ _ _ _ _ _ _ _ _ _ _ _ _ _ _ _ _ _ _ _ _ _ _ _ _ _ _ _ _ _ _ _ _ _ _ _ _ m k s _ T pA (some ⟨bb, oo, none⟩) pc cc m.code.length _ _ _ w W5 takes puts (unhide HST) htk0 hpt0 (unhide HO18) (by have h18 := unhide HO18; rw [unhide HNX, if_neg (by rw [h18]; decide), if_pos h18, h18]; rfl)) (unhide HY)
            · cases beh with
              | false =>
                clear hd2
                go_wp2_with fail
                refine unhide HK _ _ ?_
                cases the with
                | false => exact mono_out (nt_ff _ _ _ _ _ _ _ _ _ _ _ _ _ _ _ _ _ _ _ _ _ _ _ _ _ _ _ _ _ _ _ _ _ _ _ _ _ _ _ _ _ _ _ _ _ _ _ _ _ _ _ _ _ _ _ _ _ _ _ _ _ _ _ _ _ _ _ _ _ _ _ _ _ _ _ _ _ _ _ _ _ _ _ _ _ _ _ _ _ _ _ _ _ _ _ _ _ _ _ _ _ _ _ _ _ _ _ _ _ _ _ _ _ _ _ _ _ _ _ _ _ _ _ _ _ _ _ _ _ _ _ _ _ _ _ _ _ _ _ _ _ _ _ _ _ _ _ _ _ _ _ _ _ _ _ _ _ _ _ _ _ _ _ _ _ _ _ _ _ _ _ _ _ _ _ _ _ _ _ _ _ _ _ _ _ _ _ _ _ _ _ _ _ _ _ _ _ _ _ _ _ _ _ _ _ _ _ _ _ _ _ _ _ _ _ _ _ _ _ _ _ _ _ _ _ _ _ _ _ _ _ _ _ _ _ _ _ _ _ _ _ _ _ _ _ _ _ _ _ _ _ _ _ _ _ _ _ _ _ _ _ _ _ _ _ _ _ _ _ _ _ _ _ _ _ _ m k s _ T pA (some ⟨bb, oo, none⟩) pc cc m.code.length _ _ _ w W5 takes puts (unhide HST) htk0 hpt0 ⟨h14, h17, h18⟩ (by rw [unhide HNX, if_neg h17, if_neg h18, tr_same h14 h17]; rfl)) (unhide HY)
                | true => exact mono_out (nt_ft _ _ _ _ _ _ _ _ _ _ _ _ _ _ _ _ _ _ _ _ _ _ _ _ _ _ _ _ _ _ _ _ _ _ _ _ _ _ _ _ _ _ _ _ _ _ _ _ _ _ _ _ _ _ _ _ _ _ _ _ _ _ _ _ _ _ _ _ _ _ _ _ _ _ _ _ _ _ _ _ _ _ _ _ _ _ _ _ _ _ _ _ _ _ _ _ _ _ _ _ _ _ _ _ _ _ _ _ _ _ _ _ _ _ _ _ _ _ _ _ _ _ _ _ _ _ _ _ _ _ _ _ _ _ _ _ _ _ _ _ _ _ _ _ _ _ _ _ _ _ _ _ _ _ _ _ _ _ _ _ _ _ _ _ _ _ _ _ _ _ _ _ _ _ _ _ _ _ _ _ _ _ _ _ _ _ _ _ _ _ _ _ _ _ _ _ _ _ _ _ _ _ _ _ _ _ _ _ _ _ _ _ _ _ _ _ _ _ _ _ _ _ _ _ _ _ _ _ _ _ _ _ _ _ _ _ _ _ _ _ _ _ _ _ _ _ _ _ _ _ _ _ _ _ _ _ _ _ _ _ _ _ _ _ _ _ _ _ _ _ _ _ _ _ _ _ m k s _ T pA (some ⟨bb, oo, none⟩) pc cc m.code.length _ _ _ w W5 takes puts (unhide HST) htk0 hpt0 ⟨h14, h17, h18⟩ (by rw [unhide HNX, if_neg h17, if_neg h18, tr_same h14 h17]; rfl)) (unhide HY)
              | true =>
                have hd3 := hd2 rfl
                clear hd2
                go_wp2_with fail
                refine unhide HK _ _ ?_
                cases the with
                | false => exact mono_out (nt_tf _ _ _ _ _ _ _ _ _ _ _ _ _ _ _ _ _ _ _ _ _ _ _ _ _ _ _ _ _ _ _ _ _ _ _ _ _ _ _ _ _ _ _ _ _ _ _ _ _ _ _ _ _ _ _ _ _ _ _ _ _ _ _ _ _ _ _ _ _ _ _ _ _ _ _ _ _ _ _ _ _ _ _ _ _ _ _ _ _ _ _ _ _ _ _ _ _ _ _ _ _ _ _ _ _ _ _ _ _ _ _ _ _ _ _ _ _ _ _ _ _ _ _ _ _ _ _ _ _ _ _ _ _ _ _ _ _ _ _ _ _ _ _ _ _ _ _ _ _ _ _ _ _ _ _ _ _ _ _ _ _ _ _ _ _ _ _ _ _ _ _ _ _ _ _ _ _ _ _ _ _ _ _ _ _ _ _ _ _ _ _ _ _ _ _ _ _ _ _ _ _ _ _ _ _ _ _ _ _ _ _ _ _ _ _ _ _ _ _ _ _ _ _ _ _ _ _ _ _ _ _ _ _ _ _ _ _ _ _ _ _ _ _ _ _ _ _ _ _ _ _ _ _ _ _ _ _ _ _ _ _ _ _ _ _ _ _ _ _ _ _ _ _ _ _ _ m k s _ T pA (some ⟨bb, oo, none⟩) pc cc m.code.length _ _ _ w W5 takes puts (unhide HST) htk0 hpt0 ⟨h14, h17, h18⟩ (by rw [unhide HNX, if_neg h17, if_neg h18, tr_same h14 h17]; rfl)) (unhide HY)
                | true => exact mono_out (nt_tt _ _ _ _ _ _ _ _ _ _ _ _ _ _ _ _ _ _ _ _ _ _ _ _ _ _ _ _ _ _ _ _ _ _ _ _ _ _ _ _ _ _ _ _ _ _ _ _ _ _ _ _ _ _ _ _ _ _ _ _ _ _ _ _ _ _ _ _ _ _ _ _ _ _ _ _ _ _ _ _ _ _ _ _ _ _ _ _ _ _ _ _ _ _ _ _ _ _ _ _ _ _ _ _ _ _ _ _ _ _ _ _ _ _ _ _ _ _ _ _ _ _ _ _ _ _ _ _ _ _ _ _ _ _ _ _ _ _ _ _ _ _ _ _ _ _ _ _ _ _ _ _ _ _ _ _ _ _ _ _ _ _ _ _ _ _ _ _ _ _ _ _ _ _ _ _ _ _ _ _ _ _ _ _ _ _ _ _ _ _ _ _ _ _ _ _ _ _ _ _ _ _ _ _ _ _ _ _ _ _ _ _ _ _ _ _ _ _ _ _ _ _ _ _ _ _ _ _ _ _ _ _ _ _ _ _ _ _ _ _ _ _ _ _ _ _ _ _ _ _ _ _ _ _ _ _ _ _ _ _ _ _ _ _ _ _ _ _ _ _ _ _ _ _ _ _ m k s _ T pA (some ⟨bb, oo, none⟩) pc cc m.code.length _ _ _ w W5 takes puts (unhide HST) htk0 hpt0 ⟨h14, h17, h18⟩ (by rw [unhide HNX, if_neg h17, if_neg h18, tr_same h14 h17]; rfl)) (unhide HY)
/-- What follows an instruction, in the program. -/
theorem next_any (m : Im) (pA cA : Option Addr) (pc cc : Nat) (T0 T1 T : Nat → Prop) (w : World) (hp : Rd T0 w pA (m.pool.flatMap cstv)) (hc : Rd T1 w cA (m.code.flatMap insv)) (hpn : m.pool.length ≤ 100000) (hcn : m.code.length ≤ 900) (px : ∀ x ∈ m.pool, x.text.size ≤ 9223372036854775807) (ok : CodeOk m) (k : Nat) (hk : k < m.code.length) (s : RSt) (tv : Value) (htr : RdI T w tv s.tries) (hcap : CapOk tv) (htl : s.tries.length ≤ 900) (hh : 0 ≤ s.height ∧ s.height ≤ 1000) :
    Calls Tryd.prog 24 #[.agg #[.slice pA m.pool.length pc, .slice cA m.code.length cc], .int .i64 (k : Int), .agg #[.bool true, .int .i64 s.of, .int .i64 s.has, .int .i64 s.height, tv]] w fun e w' => NextOut m k s T w e w' := by
  by_cases he : s.tries = []
  · exact next_e m pA cA pc cc T0 T1 T w hp hc hpn hcn px ok k hk s tv htr hcap htl hh he
  · exact next_n m pA cA pc cc T0 T1 T w hp hc hpn hcn px ok k hk s tv htr hcap htl hh he
end Go.Proofs.YtejkaalhjocmgaaDoor

namespace Go.Proofs.YtejkaalhjocmgaaDoor
open Go.RowKit
set_option maxHeartbeats 1000000
set_option maxRecDepth 100000
/-- What a place of the row holds. -/
def RAt (T : Nat → Prop) (w : World) (cs : Array Value) (k : Nat) : Option RSt → Prop
  | none => cs[k * 5]? = some (.bool false) ∧ cs[k * 5 + 1]? = some (.int .i64 0) ∧ cs[k * 5 + 2]? = some (.int .i64 0) ∧ cs[k * 5 + 3]? = some (.int .i64 0) ∧ cs[k * 5 + 4]? = some (.slice none 0 0)
  | some s => ∃ tv, cs[k * 5]? = some (.bool true) ∧ cs[k * 5 + 1]? = some (.int .i64 s.of) ∧ cs[k * 5 + 2]? = some (.int .i64 s.has) ∧ cs[k * 5 + 3]? = some (.int .i64 s.height) ∧ cs[k * 5 + 4]? = some tv ∧ RdI T w tv s.tries ∧ CapOk tv
structure AllRep (T : Nat → Prop) (w : World) (b : Nat) (cs : Array Value) (l : List (Option RSt)) : Prop where
  blk : Blk w b 37 cs
  sz : cs.size = l.length * 5
  at_ : ∀ k o, l[k]? = some o → RAt T w cs k o
section
variable {T T' S : Nat → Prop} {w w' : World} {b : Nat} {cs : Array Value} {l : List (Option RSt)}
theorem RAt.chg {k : Nat} {o : Option RSt} (h : RAt T w cs k o) (hc : Chg S w w') (hT : ∀ b, T b → b < w.heap.size → ¬ S b) : RAt T w' cs k o := by
  cases o with
  | none => exact h
  | some p =>
    obtain ⟨tv, h0, h1, h2, h3, h4, h5, h6⟩ := h
    exact ⟨tv, h0, h1, h2, h3, h4, h5.chg hc hT, h6⟩
theorem RAt.mono {k : Nat} {o : Option RSt} (h : RAt T w cs k o) (hm : ∀ b, T b → T' b) : RAt T' w cs k o := by
  cases o with
  | none => exact h
  | some p =>
    obtain ⟨tv, h0, h1, h2, h3, h4, h5, h6⟩ := h
    exact ⟨tv, h0, h1, h2, h3, h4, h5.mono hm, h6⟩
theorem AllRep.chg (h : AllRep T w b cs l) (hc : Chg S w w') (hb : ¬ S b) (hT : ∀ b, T b → b < w.heap.size → ¬ S b) : AllRep T w' b cs l :=
  ⟨h.blk.chg hc hb, h.sz, fun k o hk => (h.at_ k o hk).chg hc hT⟩
theorem AllRep.mono (h : AllRep T w b cs l) (hm : ∀ b, T b → T' b) : AllRep T' w b cs l := ⟨h.blk, h.sz, fun k o hk => (h.at_ k o hk).mono hm⟩
def set5 (cs : Array Value) (k : Nat) (v0 v1 v2 v3 v4 : Value) : Array Value := ((((cs.setIfInBounds (k * 5) v0).setIfInBounds (k * 5 + 1) v1).setIfInBounds (k * 5 + 2) v2).setIfInBounds (k * 5 + 3) v3).setIfInBounds (k * 5 + 4) v4
theorem set5_at (cs : Array Value) (k : Nat) (v0 v1 v2 v3 v4 : Value) (i : Nat) (h : k * 5 + 4 < cs.size) : (set5 cs k v0 v1 v2 v3 v4)[i]? = if i = k * 5 + 4 then some v4 else if i = k * 5 + 3 then some v3 else if i = k * 5 + 2 then some v2 else if i = k * 5 + 1 then some v1 else if i = k * 5 then some v0 else cs[i]? := by
  unfold set5
  simp only [Array.getElem?_setIfInBounds, Array.size_setIfInBounds]
  by_cases h4 : i = k * 5 + 4
  · subst h4; simp [h]
  · by_cases h3 : i = k * 5 + 3
    · subst h3; simp; omega
    · by_cases h2 : i = k * 5 + 2
      · subst h2; simp; omega
      · by_cases h1 : i = k * 5 + 1
        · subst h1; simp; omega
        · by_cases h0 : i = k * 5
          · subst h0; simp; omega
          · rw [if_neg (Ne.symm h4), if_neg (Ne.symm h3), if_neg (Ne.symm h2), if_neg (Ne.symm h1), if_neg (Ne.symm h0), if_neg h4, if_neg h3, if_neg h2, if_neg h1, if_neg h0]
theorem AllRep.set5 {s : RSt} {tv : Value} (h : AllRep T w b cs l) {k : Nat} (hk : k < l.length) (hp : RdI T w tv s.tries) (hcap : CapOk tv) (hTb : ¬ T b) :
    AllRep T (((((w.setCell ⟨b, k * 5, none⟩ (.bool true)).setCell ⟨b, k * 5 + 1, none⟩ (.int .i64 s.of)).setCell ⟨b, k * 5 + 2, none⟩ (.int .i64 s.has)).setCell ⟨b, k * 5 + 3, none⟩ (.int .i64 s.height)).setCell ⟨b, k * 5 + 4, none⟩ tv) b (set5 cs k (.bool true) (.int .i64 s.of) (.int .i64 s.has) (.int .i64 s.height) tv) (l.set k (some s)) := by
  have hsz := h.sz
  have hS : Chg (fun i => i = b) w (((((w.setCell ⟨b, k * 5, none⟩ (.bool true)).setCell ⟨b, k * 5 + 1, none⟩ (.int .i64 s.of)).setCell ⟨b, k * 5 + 2, none⟩ (.int .i64 s.has)).setCell ⟨b, k * 5 + 3, none⟩ (.int .i64 s.height)).setCell ⟨b, k * 5 + 4, none⟩ tv) :=
    (((((Chg.refl (fun i => i = b) w).setCell (fun _ => rfl) _).setCell (fun _ => rfl) _).setCell (fun _ => rfl) _).setCell (fun _ => rfl) _).setCell (fun _ => rfl) _
  have hTn : ∀ t, T t → t < w.heap.size → ¬ t = b := fun t ht _ e => hTb (e ▸ ht)
  refine ⟨((((h.blk.set_ _ _).set_ _ _).set_ _ _).set_ _ _).set_ _ _, ?_, fun j o hj => ?_⟩
  · unfold Go.Proofs.YtejkaalhjocmgaaDoor.set5
    simp only [Array.size_setIfInBounds, List.length_set]
    exact hsz
  · have hat := fun i => set5_at cs k (.bool true) (.int .i64 s.of) (.int .i64 s.has) (.int .i64 s.height) tv i (by omega)
    rw [List.getElem?_set] at hj
    split at hj
    · rename_i e
      subst e
      try rw [if_pos hk] at hj
      injection hj with hj
      subst hj
      refine ⟨tv, ?_, ?_, ?_, ?_, ?_, hp.chg hS hTn, hcap⟩
      · rw [hat, if_neg (by omega), if_neg (by omega), if_neg (by omega), if_neg (by omega), if_pos rfl]
      · rw [hat, if_neg (by omega), if_neg (by omega), if_neg (by omega), if_pos rfl]
      · rw [hat, if_neg (by omega), if_neg (by omega), if_pos rfl]
      · rw [hat, if_neg (by omega), if_pos rfl]
      · rw [hat, if_pos rfl]
    · rename_i e
      have hne : ∀ i, i < 5 → (Go.Proofs.YtejkaalhjocmgaaDoor.set5 cs k (.bool true) (.int .i64 s.of) (.int .i64 s.has) (.int .i64 s.height) tv)[j * 5 + i]? = cs[j * 5 + i]? := fun i hi => by
        rw [hat, if_neg (by omega), if_neg (by omega), if_neg (by omega), if_neg (by omega), if_neg (by omega)]
      have hold := (h.at_ j o hj).chg hS hTn
      have e0 := hne 0 (by omega)
      rw [Nat.add_zero] at e0
      cases o with
      | none =>
        obtain ⟨a0, a1, a2, a3, a4⟩ := hold
        exact ⟨e0.trans a0, (hne 1 (by omega)).trans a1, (hne 2 (by omega)).trans a2, (hne 3 (by omega)).trans a3, (hne 4 (by omega)).trans a4⟩
      | some q =>
        obtain ⟨u, a0, a1, a2, a3, a4, a5, a6⟩ := hold
        exact ⟨u, e0.trans a0, (hne 1 (by omega)).trans a1, (hne 2 (by omega)).trans a2, (hne 3 (by omega)).trans a3, (hne 4 (by omega)).trans a4, a5, a6⟩
end
def zero5 : List Value := [.bool false, .int .i64 0, .int .i64 0, .int .i64 0, .slice none 0 0]
theorem info37 : (Tryd.prog.info? 37).map (fun i => (i.zero, i.size, i.bytes)) = some (some (.agg #[.bool false, .int .i64 0, .int .i64 0, .int .i64 0, .slice none 0 0]), 5, 56) := by kernel_rfl
theorem made37_at (n k j : Nat) (hk : k < n) (hj : j < 5) : (madeCells #[.bool false, .int .i64 0, .int .i64 0, .int .i64 0, .slice none 0 0] (n * 5))[k * 5 + j]? = zero5[j]? := by
  unfold madeCells
  rw [Array.getElem?_map, Array.getElem?_range]
  rw [if_pos (by omega)]
  have : (k * 5 + j) % 5 = j := by omega
  simp only [Option.map_some, List.size_toArray, List.length_cons, List.length_nil, Nat.zero_add, Nat.reduceAdd, this]
  match j, hj with
  | 0, _ => rfl
  | 1, _ => rfl
  | 2, _ => rfl
  | 3, _ => rfl
  | 4, _ => rfl
theorem AllRep.zero (T : Nat → Prop) {w : World} {b n : Nat} {cs : Array Value} (kb : Blk w b 37 cs) (hz : cs.size = n * 5) (hzc : ∀ k j, k < n → j < 5 → cs[k * 5 + j]? = zero5[j]?) : AllRep T w b cs (List.replicate n none) := by
  refine ⟨kb, by rw [hz, List.length_replicate], fun k o hk => ?_⟩
  rw [List.getElem?_replicate] at hk
  split at hk
  · rename_i hkn
    injection hk with hk
    subst hk
    have h0 := hzc k 0 hkn (by omega)
    rw [Nat.add_zero] at h0
    exact ⟨h0, hzc k 1 hkn (by omega), hzc k 2 hkn (by omega), hzc k 3 hkn (by omega), hzc k 4 hkn (by omega)⟩
  · cases hk
/-- What any place holds, in any case. -/
theorem AllRep.any {T : Nat → Prop} {w : World} {b : Nat} {cs : Array Value} {l : List (Option RSt)} (h : AllRep T w b cs l) {k : Nat} (hk : k < l.length) : ∃ (o : Option RSt) (s : RSt) (tA : Option Addr) (tc : Nat), l[k]? = some o ∧ (o = none ∨ o = some s) ∧ cs[k * 5]? = some (.bool o.isSome) ∧ cs[k * 5 + 1]? = some (.int .i64 s.of) ∧ cs[k * 5 + 2]? = some (.int .i64 s.has) ∧ cs[k * 5 + 3]? = some (.int .i64 s.height) ∧ cs[k * 5 + 4]? = some (.slice tA s.tries.length tc) ∧ RdI T w (.slice tA s.tries.length tc) s.tries ∧ CapOk (.slice tA s.tries.length tc) := by
  have ho := List.getElem?_eq_getElem hk
  have hs := h.at_ k _ ho
  generalize l[k] = o at *
  cases o with
  | none => exact ⟨none, ⟨0, 0, 0, []⟩, none, 0, ho, .inl rfl, hs.1, hs.2.1, hs.2.2.1, hs.2.2.2.1, hs.2.2.2.2, RdI.nil_ _ _, CapOk.nil_⟩
  | some p =>
    obtain ⟨tv, h0, h1, h2, h3, h4, h5, h6⟩ := hs
    obtain ⟨tA, tc, rfl⟩ := h5.val
    exact ⟨some p, p, tA, tc, ho, .inr rfl, h0, h1, h2, h3, h4, h5, h6⟩
end Go.Proofs.YtejkaalhjocmgaaDoor

namespace Go.Proofs.YtejkaalhjocmgaaDoor
open Go.RowKit
set_option maxHeartbeats 2000000
set_option maxRecDepth 1000000
/-- The region of that number. -/
def findReg (k : Nat) : Code → Option Code
  | .region i o b => if i = k then some (.region i o b) else none
  | .block _ c => findReg k c
  | .loop c => findReg k c
  | .seq a b => match findReg k a with
    | some c => some c
    | none => findReg k b
  | .scope c => findReg k c
  | .cond _ a b => match findReg k a with
    | some c => some c
    | none => findReg k b
  | _ => none
noncomputable def reg21C : Code := (Tryd.f14.body.bind (findReg 21)).getD .skip
theorem st_reg21 (x0 x1 x2 x3 x5 x6 x8 x10 x11 x12 x13 x14 x15 x16 x17 x18 x19 x20 x21 x22 x23 x24 x25 x26 x27 x28 x29 x30 x31 x32 x33 x34 x35 x36 x37 x38 x39 x40 x41 x42 x43 x44 x45 x46 x47 x48 x49 x50 x51 x52 x53 x54 x55 x56 x57 x58 x59 x60 x61 x62 x63 x64 x65 x66 x67 x68 x69 x70 x71 x72 x73 x74 x75 x76 x77 x78 x79 x80 x81 x82 x83 x84 x85 x86 x87 x88 x89 x90 x91 x92 x93 x94 x95 x96 x97 x98 x99 x100 x101 x102 x103 : Value) (w : World) (b rb ro j t n nc L lc : Nat) (a2 a3 a4 e1 e2 e3 : Int) (a5 e5 : Option Addr) (k5 c5 k6 c6 : Nat) (e0 : Bool) (_hL : L ≤ 1000) (hji : (j : Int) < (L : Int)) (hti : (t : Int) < (n : Int)) (_hn : n ≤ 900)
    (r0 : w.cell? ⟨rb, ro + j * 6, none⟩ = some (.int .i64 (t : Int))) (r1 : w.cell? ⟨rb, ro + j * 6 + 1, none⟩ = some (.bool true)) (r2 : w.cell? ⟨rb, ro + j * 6 + 2, none⟩ = some (.int .i64 a2)) (r3 : w.cell? ⟨rb, ro + j * 6 + 3, none⟩ = some (.int .i64 a3)) (r4 : w.cell? ⟨rb, ro + j * 6 + 4, none⟩ = some (.int .i64 a4)) (r5 : w.cell? ⟨rb, ro + j * 6 + 5, none⟩ = some (.slice a5 k5 c5))
    (q0 : w.cell? ⟨b, t * 5, none⟩ = some (.bool e0)) (q1 : w.cell? ⟨b, t * 5 + 1, none⟩ = some (.int .i64 e1)) (q2 : w.cell? ⟨b, t * 5 + 2, none⟩ = some (.int .i64 e2)) (q3 : w.cell? ⟨b, t * 5 + 3, none⟩ = some (.int .i64 e3)) (q4 : w.cell? ⟨b, t * 5 + 4, none⟩ = some (.slice e5 k6 c6))
    (f0 : w.frozen? ⟨b, t * 5, none⟩ = false) (f1 : w.frozen? ⟨b, t * 5 + 1, none⟩ = false) (f2 : w.frozen? ⟨b, t * 5 + 2, none⟩ = false) (f3 : w.frozen? ⟨b, t * 5 + 3, none⟩ = false) (f4 : w.frozen? ⟨b, t * 5 + 4, none⟩ = false)
    (Q : Exit → Act → World → Prop) (hexit : ∀ (y91 y92 y93 y94 y95 y96 y97 y98 y99 y100 y101 y102 : Value), Q .normal ⟨#[x0, x1, x2, x3, .slice (some ⟨b, 0, none⟩) n nc, x5, x6, .slice (some ⟨rb, ro, none⟩) L lc, x8, .int .i64 (j : Int), x10, x11, x12, x13, x14, x15, x16, x17, x18, x19, x20, x21, x22, x23, x24, x25, x26, x27, x28, x29, x30, x31, x32, x33, x34, x35, x36, x37, x38, x39, x40, x41, x42, x43, x44, x45, x46, x47, x48, x49, x50, x51, x52, x53, x54, x55, x56, x57, x58, x59, x60, x61, x62, x63, x64, x65, x66, x67, x68, x69, x70, x71, x72, x73, x74, x75, x76, x77, x78, x79, x80, x81, x82, x83, x84, x85, x86, x87, x88, x89, x90, y91, y92, y93, y94, y95, y96, y97, y98, y99, y100, y101, y102, x103], []⟩ ((((((w.setCell ⟨b, t * 5, none⟩ (.bool true)).setCell ⟨b, t * 5 + 1, none⟩ (.int .i64 a2)).setCell ⟨b, t * 5 + 2, none⟩ (.int .i64 a3)).setCell ⟨b, t * 5 + 3, none⟩ (.int .i64 a4)).setCell ⟨b, t * 5 + 4, none⟩ (.slice a5 k5 c5)).drew)) :
    Code.wp Tryd.prog reg21C Q ⟨#[x0, x1, x2, x3, .slice (some ⟨b, 0, none⟩) n nc, x5, x6, .slice (some ⟨rb, ro, none⟩) L lc, x8, .int .i64 (j : Int), x10, x11, x12, x13, x14, x15, x16, x17, x18, x19, x20, x21, x22, x23, x24, x25, x26, x27, x28, x29, x30, x31, x32, x33, x34, x35, x36, x37, x38, x39, x40, x41, x42, x43, x44, x45, x46, x47, x48, x49, x50, x51, x52, x53, x54, x55, x56, x57, x58, x59, x60, x61, x62, x63, x64, x65, x66, x67, x68, x69, x70, x71, x72, x73, x74, x75, x76, x77, x78, x79, x80, x81, x82, x83, x84, x85, x86, x87, x88, x89, x90, x91, x92, x93, x94, x95, x96, x97, x98, x99, x100, x101, x102, x103], []⟩ w := by
  have HX := hide hexit
  clear hexit
  conv => arg 2; whnf
  refine wp_region_noPanic ?_
  go_region
  all_goals
    refine NoPanic.normal ?_
    exact unhide HX _ _ _ _ _ _ _ _ _ _ _ _
end Go.Proofs.YtejkaalhjocmgaaDoor
