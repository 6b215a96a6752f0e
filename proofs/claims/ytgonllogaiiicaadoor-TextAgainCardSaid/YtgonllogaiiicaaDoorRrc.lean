/-
  Layer 17, the document's side: what a line is that does something.
-/
import Derived.Test.YtgonllogaiiicaaDoorRrd
import Derived.Test.YtgonllogaiiicaaDoorM03
namespace Go.Proofs.YtgonllogaiiicaaDoor
open Go.RowKit
set_option maxHeartbeats 4000000
set_option maxRecDepth 100000
theorem infoI : (Tryd.prog.info? 3).map (fun i => (i.zero, i.size, i.bytes)) = some (some (.int .i64 0), 1, 8) := by kernel_rfl
theorem refNumber_bs (b : Bs) (hb : b.length ≤ 100000000) (W : World) : Calls Tryd.prog 44 #[.string ⟨b.toArray⟩] W fun e w' => e = .returned (.int .i64 (numR b)) ∧ W = w' := by
  have := refNumber_any ⟨b.toArray⟩ W (by show b.toArray.size ≤ _; rw [List.size_toArray]; omega)
  rw [show (ByteArray.data ⟨b.toArray⟩).toList = b from by simp] at this
  exact this
theorem refLabel_bs (b : Bs) (hb : b.length ≤ 100000000) (W : World) : Calls Tryd.prog 43 #[.string ⟨b.toArray⟩] W fun e w' => e = .returned (.bool (labelB b)) ∧ W = w' := by
  have := refLabel_any ⟨b.toArray⟩ W (by show b.toArray.size ≤ _; rw [List.size_toArray]; omega)
  rw [show (ByteArray.data ⟨b.toArray⟩).toList = b from by simp] at this
  exact this
theorem one_int (n : Int) : ∀ u ∈ [iv n], u.oneCell' = true := by intro u hu; simp at hu; subst hu; rfl
theorem two_int (m n : Int) : ∀ u ∈ [iv m, iv n], u.oneCell' = true := by intro u hu; simp at hu; rcases hu with rfl | rfl <;> rfl
theorem numR_some {b : Bs} {n : Nat} (h : numB b = some n) : numR b = (n : Int) := by rw [numR, h]
theorem numR_none {b : Bs} (h : numB b = none) : numR b = -1 := by rw [numR, h]
theorem rowz (L : List Nat) (j : Nat) (hj : j < 2) : (L.map (iv ∘ fun n : Nat => (n : Int)) ++ [iv 0, iv 0])[j]? = some (iv ((L.getD j 0 : Nat) : Int)) := by
  have hj2 : j = 0 ∨ j = 1 := by omega
  rcases L with _ | ⟨a, _ | ⟨b, r⟩⟩ <;> rcases hj2 with rfl | rfl <;> rfl
theorem read1_does (s : ByteArray) (w : World) (hs : s.size ≤ 100000000) (s0 : Bs) (p0 : Nat) (rest : List (Bs × Nat)) (hw : wordsL s.data.toList = (s0, p0) :: rest) (hl : s0.getLast? ≠ some 58) :
    Calls Tryd.prog 19 #[.string s] w fun e w' => e = .returned (lnV (readL s.data.toList)) ∧ Chg (fun _ => False) w w' := by
  have hx : readL s.data.toList = match findOp s0 with
    | none => wrongL
    | some o => opW o rest := by unfold readL; rw [hw]; exact if_neg hl
  have hwl := wordsL_len s.data.toList
  obtain ⟨hm1, hm2, hm3⟩ : s0 ≠ [] ∧ s0.length ≤ s.size ∧ p0 ≤ s.size := wordsL_mem (s := s.data.toList) (x := (s0, p0)) (by rw [hw]; simp)
  have HME := hide (fun (x : Bs × Nat) (hx : x ∈ rest) => show x.1.length ≤ 100000000 ∧ x.2 ≤ 100000000 from by
    obtain ⟨h1, h2, h3⟩ := wordsL_mem (s := s.data.toList) (x := x) (by rw [hw]; simp [hx])
    have : s.data.toList.length = s.size := rfl
    omega)
  have hsl : s.data.toList.length = s.size := rfl
  have HW := hide (fun W => refWords_any s W hs)
  rw [hw] at HW hwl
  have HC0 := hide ((Chg.refl (fun _ => False) w).alloc (.cells zero6 44))
  obtain ⟨X, hX⟩ : ∃ X : ByteArray, ⟨s0.toArray⟩ = X := ⟨_, rfl⟩
  have hXd : X.data.toList = s0 := by rw [← hX]
  have hXs : X.size = s0.length := by rw [← hX]; simp [ByteArray.size]
  have hpos : 0 < X.size := by
    rw [hXs]
    exact List.length_pos_iff.2 hm1
  have hlast := last_byte hpos
  rw [hXd] at hlast
  obtain ⟨n, hn⟩ : ∃ n, X.size = n + 1 := ⟨X.size - 1, by omega⟩
  have hv58 : ∀ h : n < X.size, ¬ ((X[n]'h).toNat : Int) = 58 := by
    intro h e
    have h1 : X[X.size - 1]'(by omega) = X[n]'h := by congr 1; omega
    rw [h1] at hlast
    exact hl (by rw [hlast]; exact congrArg some (UInt8.toNat_inj.1 (by show (X[n]'h).toNat = 58; omega)))
  obtain ⟨v58, hv⟩ : ∃ v : Nat, ∀ h : n < X.size, (X[n]'h).toNat = v := ⟨(X[n]'(by omega)).toNat, fun _ => rfl⟩
  have hvne : ¬ (v58 : Int) = 58 := by rw [← hv (by omega)]; exact hv58 (by omega)
  have hvb : ((v58 : Int) == 58) = false := beq_eq_false_iff_ne.2 hvne
  clear hv58
  have hrl : rest.length ≤ 100000000 := by rw [List.length_cons] at hwl; omega
  have hnb : n ≤ 1000000000 := by omega
  have hr0 : ((rest.length : Int) + 1 == 0) = false := beq_eq_false_iff_ne.2 (by omega)
  have HX := hide hX
  have HXX := hide hx
  have hSA := scanO_all s0
  unfold findI at hSA
  have HSA := hide hSA
  have HFL := hide (fun o h => findOp_le (s := s0) (o := o) h)
  clear hX hm1 hXd hXs hlast hwl hsl hw hl hx hSA
  generalize readL s.data.toList = R at *
  generalize findOp s0 = FO at *
  go_enter Tryd.func19, Tryd.ntmps19
  go_upto_region 9 with (go_at_call 42; (with_reducible refine (unhide HW _).mono ?_); rintro e w2 ⟨A, c, rfl, hr, hc2⟩; have HC2 := hide hc2; have HK := hide ((Blk.new w 44 zero6).chg hc2 id); (obtain ⟨b, o, rfl, hT, hat⟩ := words_at hr (by simp)); (have k0 := hat 0 _ rfl); rw [Nat.zero_mul, Nat.add_zero] at k0; obtain ⟨k1, k2⟩ := k0; rw [unhide HX] at k1; have HAT := hide hat; clear hat hr hc2)
  have hXe := unhide HX
  subst hXe
  have HBL := hide (block_lt_of_cell k1)
  clear HX hv hvb hvne hpos HW hn k1 k2 hT
  have HAT2 := hide (fun W (hW : Chg (fun _ => False) w2 W) (k : Nat) (x : Bs × Nat) (hx : rest[k]? = some x) => show W.cell? ⟨b, o + (k + 1) * 2, none⟩ = some (.string ⟨x.1.toArray⟩) ∧ W.cell? ⟨b, o + (k + 1) * 2 + 1, none⟩ = some (.int .i64 (x.2 : Int)) from by
    obtain ⟨h1, h2⟩ := (unhide HAT) (k + 1) x (by rw [List.getElem?_cons_succ]; exact hx)
    exact ⟨(hW.cell (World.block_lt_of_cell? w2 _ h1) id).trans h1, (hW.cell (World.block_lt_of_cell? w2 _ h2) id).trans h2⟩)
  clear HAT
  go_wp2_with fail
  go_loopw [5, 6] (fun ov kv wr => ∃ k : Nat, kv = .int .i64 (k : Int) ∧ k ≤ 21 ∧ ov = .int .i64 (scanO s0 k) ∧ Chg (fun _ => False) w2 wr) (fun _ kv _ => 21 - (intOf kv).toNat)
  case atStart => exact ⟨0, rfl, Nat.zero_le _, rfl, Chg.refl _ _⟩
  case round =>
    obtain ⟨wq, rfl⟩ : ∃ wq : World, wq = wr := ⟨_, rfl⟩
    obtain ⟨k, rfl, hk, rfl, hch⟩ := hrel
    have HCH := hide hch
    clear hch
    by_cases hlt : k < 21
    · have hki : (k : Int) < 21 := by omega
      have HNA := hide (fun W => names_all k hlt W)
      have HSC := hide (show scanO s0 (k + 1) = if (opNames.getD k [] == s0) = true then (k : Int) else scanO s0 k from rfl)
      generalize opNames.getD k [] = NK at *
      generalize scanO s0 k = sc at *
      cases hb : (NK == s0)
      all_goals
        rw [hb] at HSC
        go_wp2_with (go_at_call 37; (with_reducible refine (unhide HNA _).mono ?_); rintro e w3 ⟨q, rfl, hcell, hc3⟩; have HC3 := hide hc3; clear hc3)
        go_roundw
        case rel => exact ⟨k + 1, by go_num, by omega, by rw [unhide HSC]; rfl, (unhide HCH).trans' (unhide HC3)⟩
        case measure => simp [intOf]; omega
    · obtain rfl : k = 21 := by omega
      have HKq := hide ((unhide HK).chg (unhide HCH) id)
      cases hfo : FO with
      | none =>
        have hR := unhide HXX
        rw [hfo] at hR
        have hR1 : R = wrongL := hR
        have hs1 := unhide HSA
        rw [hfo] at hs1
        have hs2 : scanO s0 21 = -1 := hs1
        rw [hs2]
        clear hs1 hs2
        subst hR1
        obtain ⟨⟨y0, y1, y2, y3, y4, y5⟩, z0, z1, z2, z3, z4, z5⟩ := (unhide HKq).all6
        clear hR hfo
        go_wp2_with fail
        exact bodyPost_ret (line_res (unhide HKq) _ rfl _ _ _ _ _ _) rfl ⟨rfl, put6_chg (((unhide HC0).trans' (unhide HC2)).trans' (unhide HCH)) (Nat.le_refl _) _ _ _ _ _ _⟩
      | some op =>
        have ho20 := (unhide HFL) op hfo
        have hR := unhide HXX
        rw [hfo] at hR
        have hR1 : R = opW op rest := hR
        have hs1 := unhide HSA
        rw [hfo] at hs1
        have hs2 : scanO s0 21 = (op : Int) := hs1
        rw [hs2]
        subst hR1
        clear hs1 hs2 hR hfo HXX HFL HSA
        have HC20 := hide (((unhide HC0).trans' (unhide HC2)).trans' (unhide HCH))
        have HBW := hide (show b < wq.heap.size from Nat.lt_of_lt_of_le (unhide HBL) (unhide HCH).size)
        have HATq := hide (fun W (hW : Chg (fun _ => False) wq W) => unhide HAT2 W ((unhide HCH).trans' hW))
        clear HAT2 HC0 HC2 HCH HK
        (obtain ⟨⟨y0, y1, y2, y3, y4, y5⟩, z0, z1, z2, z3, z4, z5⟩ := (unhide HKq).all6)
        have hop0 : ¬ (op : Int) < 0 := by omega
        go_upto_region 18 with fail
        clear y0 y1 y2 y3 y4 y5 z0 z1 z2 z3 z4 z5
        obtain ⟨wb, hwb⟩ : ∃ wb, wq.alloc (.cells #[.int .i64 3, .string ⟨#[]⟩, .int .i64 0, .int .i64 (op : Int), .int .i64 0, .int .i64 0] 44) = wb := ⟨_, rfl⟩
        have bk := Blk.new wq 44 #[.int .i64 3, .string ⟨#[]⟩, .int .i64 0, .int .i64 (op : Int), .int .i64 0, .int .i64 0]
        have hcb : Chg (fun _ => False) wq (wq.alloc (.cells #[.int .i64 3, .string ⟨#[]⟩, .int .i64 0, .int .i64 (op : Int), .int .i64 0, .int .i64 0] 44)) := (Chg.refl _ wq).alloc _
        have hg70 := (unhide HC20).size
        have hg71 := (unhide HKq).lt
        rw [hwb] at bk hcb
        obtain ⟨g7, hg7⟩ : ∃ g7, wq.heap.size = g7 := ⟨_, rfl⟩
        rw [hg7] at bk hg70 hg71
        have HG70 := hide hg70
        have HNE := hide (show w.heap.size ≠ g7 by omega)
        clear hg70 hg71
        rw [hwb, hg7]
        have HK7 := hide bk
        have HK0 := hide ((unhide HKq).chg hcb id)
        have HCB := hide ((unhide HC20).trans' hcb)
        have HBG := hide (show b < g7 from by
          have h1 := unhide HBW
          rw [hg7] at h1
          exact h1)
        have HATB := hide (fun W (hW : Chg (fun _ => False) wb W) => unhide HATq W (hcb.trans' hW))
        have HGO := hide (fun W => refGoes_any (op : Int) W)
        (obtain ⟨⟨x0, x1, x2, x3, x4, x5⟩, f0, f1, f2, f3, f4, f5⟩ := (unhide HK7).all6)
        (obtain ⟨⟨y0, y1, y2, y3, y4, y5⟩, z0, z1, z2, z3, z4, z5⟩ := (unhide HK0).all6)
        clear bk hcb HKq HATq hwb hg7
        cases hg : goesB (op : Int) with
        | false =>
          rw [hg] at HGO
          have HOPW := hide (show opW op rest = doesW op [] 0 rest by unfold opW; rw [if_neg (by simp [hg])])
          have HGB := hide hg
          clear hg
          go_upto_region 24 with (go_at_call 34; (with_reducible refine (unhide HGO _).mono ?_); rintro e w4 ⟨rfl, rfl⟩)
          have HNU := hide (fun n h W => refNum_of op n h W)
          have hnl := numsN_le (op : Int)
          have HKW := hide (fun W (hW : Chg (fun _ => False) wb W) => show Blk W g7 44 #[.int .i64 3, .string ⟨(([] : Bs) : Bs).toArray⟩, .int .i64 (((0 : Nat) : Nat) : Int), .int .i64 (op : Int), .int .i64 0, .int .i64 0] ∧ Blk W w.heap.size 44 zero6 from ⟨(unhide HK7).chg hW id, (unhide HK0).chg hW id⟩)
          obtain ⟨⟨x0, x1, x2, x3, x4, x5⟩, f0, f1, f2, f3, f4, f5⟩ := (unhide HK7).all6
          obtain ⟨⟨y0, y1, y2, y3, y4, y5⟩, z0, z1, z2, z3, z4, z5⟩ := (unhide HK0).all6
          by_cases hlen : rest.length = numsN (op : Int)
          · obtain ⟨m, hm⟩ : ∃ m, numsN (op : Int) = m := ⟨_, rfl⟩
            rw [hm] at hlen hnl
            have HN1 := hide (unhide HNU m hm)
            clear HNU
            have hlm : ((rest.length : Int)) = (m : Int) := by omega
            obtain ⟨i_i, i_hi, i_hz, i_hs, i_hb⟩ := info_parts infoI
            have HDW := hide (fun (L : List Nat) (hL : numsW rest = some L) => show opW op rest = ⟨3, ([] : Bs), (0 : Nat), ⟨(op : Int), L.getD 0 0, L.getD 1 0⟩⟩ from by
              rw [unhide HOPW]
              unfold doesW
              rw [if_pos (by rw [hlen, hm]), hL]
              simp only [unhide HGB]
              rfl)
            have HDN := hide (fun (hL : numsW rest = none) => show opW op rest = wrongL from by
              rw [unhide HOPW]
              unfold doesW
              rw [if_pos (by rw [hlen, hm]), hL])
            have HO0 := hide (own_start (base := wb.heap.size) (size := 1) (Blk.new wb 3 #[]) (Nat.le_refl _))
            have HCA := hide ((Chg.refl (fun _ => False) wb).alloc (.cells #[] 3))
            have HLEN := hide hlen
            have hm2 : m ≤ 2 := hnl
            have e1 : (((rest.length : Int)) != (m : Int)) = false := by rw [hlm]; simp
            have e2 : ((rest.length : Int) + 1 - 1 != (m : Int)) = false := by rw [show (rest.length : Int) + 1 - 1 = (m : Int) by omega]; simp
            have hml : rest.length ≤ 2 := by omega
            clear hlm
            clear hlen hm hnl
            go_wp2_with (first
              | (go_at_call 38; (with_reducible refine (unhide HN1 _).mono ?_); rintro e w4 ⟨rfl, rfl⟩))
            clear x0 x1 x2 x3 x4 x5 f0 f1 f2 f3 f4 f5 y0 y1 y2 y3 y4 y5 z0 z1 z2 z3 z4 z5
            go_loopw [10, 11] (fun row iv_ wr => ∃ i : Nat, iv_ = .int .i64 (i : Int) ∧ 1 ≤ i ∧ i ≤ rest.length + 1 ∧ wr.ownsRow wb.heap.size 3 1 row (nvals (rest.take (i - 1))).length ((nvals (rest.take (i - 1))).map iv) ∧ Chg (fun _ => False) wb wr ∧ ∀ y ∈ rest.take (i - 1), numB y.1 ≠ none) (fun _ iv_ _ => rest.length + 1 - (intOf iv_).toNat)
            case atStart => exact ⟨1, rfl, Nat.le_refl _, Nat.le_add_left _ _, by rw [Nat.sub_self]; exact unhide HO0, unhide HCA, by rw [Nat.sub_self]; intro y hy; cases hy⟩
            case round =>
              clear HO0 HCA
              obtain ⟨wz, rfl⟩ : ∃ wz : World, wz = wr := ⟨_, rfl⟩
              obtain ⟨i, rfl, hi1, hi2, hown, hch, hgood⟩ := hrel
              obtain ⟨B, c5, rfl⟩ := own_val hown
              have HCH := hide hch
              have HGD := hide hgood
              have hvl := nvals_len (rest.take (i - 1))
              rw [List.length_take] at hvl
              by_cases hlt : i < rest.length + 1
              · have hki : (i : Int) < (rest.length : Int) + 1 := by omega
                have hki2 : (i : Int) < (rest.length : Int) + 1 := by omega
                have hxx : rest[i - 1]? = some (rest[i - 1]'(by omega)) := List.getElem?_eq_getElem (by omega)
                generalize rest[i - 1]'(by omega) = x at *
                obtain ⟨k1, k2⟩ := (unhide HATB) wz hch (i - 1) x hxx
                rw [show i - 1 + 1 = i by omega] at k1 k2
                have hmx := (unhide HME) x (List.mem_of_getElem? hxx)
                obtain ⟨xb, xp⟩ := x
                simp only at k1 k2 hmx
                have HNR := hide (fun W => refNumber_bs xb hmx.1 W)
                clear hch hgood hmx
                cases hnb2 : numB xb with
                | none =>
                  have hdn := (unhide HDN) (numsW_none (x := (xb, xp)) (List.mem_of_getElem? hxx) hnb2)
                  have HRE := hide hdn
                  rw [numR_none hnb2] at HNR
                  obtain ⟨⟨y0, y1, y2, y3, y4, y5⟩, z0, z1, z2, z3, z4, z5⟩ := ((unhide HKW) _ (unhide HCH)).2.all6
                  have HKZ := hide ((unhide HKW) _ (unhide HCH)).2
                  clear hdn hnb2 hxx hown HGD hvl
                  go_wp2_with (first
                    | (go_at_call 44; (with_reducible refine (unhide HNR _).mono ?_); rintro e w5 ⟨rfl, rfl⟩))
                  exact bodyPost_ret (line_res (unhide HKZ) _ rfl _ _ _ _ _ _) rfl ⟨retv (by rw [unhide HRE]; rfl), put6_chg ((unhide HCB).trans' (unhide HCH)) (Nat.le_refl _) _ _ _ _ _ _⟩
                | some nv =>
                  have HSN := hide (nvals_snoc (x := (xb, xp)) hxx hnb2)
                  have HGN := hide (good_snoc (x := (xb, xp)) hxx (by simp only; rw [hnb2]; exact Option.some_ne_none _) (unhide HGD))
                  have hnle := numB_le hnb2
                  rw [numR_some hnb2] at HNR
                  clear hnb2 hxx HGD
                  generalize nvals (rest.take (i - 1)) = V0 at *
                  have hm1 : V0.length + 1 ≤ maxLen := by simp only [maxLen]; omega
                  have hm2b : (V0.length + 1) * 8 ≤ 140737488355328 := by omega
                  have HRN := hide (fun W : World => (rd_new W W.heap.size 3 [iv (nv : Int)] rfl).mono (T' := fun _ => True) (fun _ _ => trivial))
                  have HO4 := hide hown
                  have hb4 : wb.heap.size ≤ (wz.alloc (.cells #[iv (nv : Int)] 3)).heap.size := ((unhide HCH).alloc (.cells #[iv (nv : Int)] 3)).size
                  have HONE := hide (one_int (nv : Int))
                  have hnn : ¬ (nv : Int) < 0 := by omega
                  clear hown hvl
                  go_wp2_with (first
                    | (go_at_call 44; (with_reducible refine (unhide HNR _).mono ?_); rintro e w5 ⟨rfl, rfl⟩)
                    | (at_builtin; (refine wpList_append_rd _ rfl (.tmp 121) (.tmp 128) 36 rfl wb.heap.size 3 i_i (.int .i64 0) 1 8 Tryd.underlying36 i_hi i_hz i_hs i_hb rfl (by decide) _ V0.length _ rfl ((unhide HO4).alloc _) (fun _ => True) (some ⟨wz.heap.size, 0, none⟩) 1 1 [iv (nv : Int)] rfl rfl ((unhide HRN) wz) (unhide HONE) hm1 hm2b hb4 ?_); intro v5 w5 ho_ hc_ hat_; (have HO5 := hide ho_); (have HC5 := hide ((unhide HCH).trans (((Chg.refl (fun k => (Value.slice B V0.length c5).ownBlock = some k) wz).alloc (.cells #[iv (nv : Int)] 3)).trans hc_ (fun _ _ h => h)) (fun i hi e => by have := ((unhide HO4).lt i e).1; omega))); clear ho_ hc_ hat_))
                  go_roundw
                  case rel =>
                    refine ⟨i + 1, by go_num, by omega, by omega, ?_, unhide HC5, ?_⟩
                    · rw [show i + 1 - 1 = i - 1 + 1 by omega, unhide HSN, List.length_append, List.map_append]
                      exact unhide HO5
                    · rw [show i + 1 - 1 = i - 1 + 1 by omega]
                      exact unhide HGN
                  case measure => simp [intOf]; omega
              · obtain rfl : i = rest.length + 1 := by omega
                have hki : ¬ ((rest.length + 1 : Nat) : Int) < (rest.length : Int) + 1 := by omega
                have htk : rest.take (rest.length + 1 - 1) = rest := by rw [Nat.add_sub_cancel, List.take_length]
                rw [htk] at hown ⊢
                have hgd := unhide HGD
                rw [htk] at hgd
                obtain ⟨L, hL1, hL2⟩ := nvals_some hgd
                rw [hL2] at hown ⊢
                have hll : L.length = rest.length := by
                  have := congrArg List.length hL2
                  rw [nvals_len, List.length_map] at this
                  omega
                have HRE := hide ((unhide HDW) L hL1)
                rw [List.length_map, List.map_map] at hown
                rw [List.length_map]
                have hm1 : L.length + 2 ≤ maxLen := by simp only [maxLen]; omega
                have hm2b : (L.length + 2) * 8 ≤ 140737488355328 := by omega
                have HRN := hide (fun W : World => (rd_new W W.heap.size 3 [iv 0, iv 0] rfl).mono (T' := fun _ => True) (fun _ _ => trivial))
                have hb4 : wb.heap.size ≤ (wz.alloc (.cells #[iv 0, iv 0] 3)).heap.size := ((unhide HCH).alloc (.cells #[iv 0, iv 0] 3)).size
                have HONE := hide (two_int 0 0)
                rw [← hll] at hki
                have HZ0 := hide (rowz L 0 (by omega))
                have HZ1 := hide (rowz L 1 (by omega))
                have hL0 : 0 < L.length + 2 := by omega
                have hL1b : 1 < L.length + 2 := by omega
                have hi0 : (0 : Int) < (L.length : Int) + 2 := by omega
                have hi1b : (1 : Int) < (L.length : Int) + 2 := by omega
                have HO4 := hide hown
                have HG0 := hide (unhide HK0).lt
                rw [hll] at hki
                clear hch hgood hgd hL1 hL2 htk hvl hlt hi1 hi2 HGD HME hown
                rw [← hll]
                have HLL := hide hll
                clear hll
                generalize hq0 : L.getD 0 0 = q0 at *
                generalize hq1 : L.getD 1 0 = q1 at *
                clear hq0 hq1
                go_upto_region 36 with (first
                  | (at_builtin; (refine wpList_append_rd _ rfl (.tmp 130) (.tmp 131) 36 rfl wb.heap.size 3 i_i (.int .i64 0) 1 8 Tryd.underlying36 i_hi i_hz i_hs i_hb rfl (by decide) _ L.length _ rfl ((unhide HO4).alloc _) (fun _ => True) (some ⟨wz.heap.size, 0, none⟩) 2 2 [iv 0, iv 0] rfl rfl ((unhide HRN) wz) (unhide HONE) hm1 hm2b hb4 ?_); intro v5 w5 ho_ hc_ hat_; (obtain ⟨gr, capr, rfl, hgr1, hgr2⟩ := World.ownsRow.form ho_ hL0); (have cr0 := World.ownsRow.cellAt ho_ 0 (by omega)); (have cr1 := World.ownsRow.cellAt ho_ 1 (by omega)); rw [unhide HZ0] at cr0; rw [unhide HZ1] at cr1; simp only [iv] at cr0 cr1; (have HO5 := hide ho_); (have HC5 := hide ((unhide HCH).trans (((Chg.refl (fun k => (Value.slice B L.length c5).ownBlock = some k) wz).alloc (.cells #[iv 0, iv 0] 3)).trans hc_ (fun _ _ h => h)) (fun i hi e => by have := ((unhide HO4).lt i e).1; omega))); clear ho_ hc_ hat_; (obtain ⟨⟨x0, x1, x2, x3, x4, x5⟩, f0, f1, f2, f3, f4, f5⟩ := ((unhide HKW) _ (unhide HC5)).1.all6); (obtain ⟨⟨y0, y1, y2, y3, y4, y5⟩, z0, z1, z2, z3, z4, z5⟩ := ((unhide HKW) _ (unhide HC5)).2.all6)))
                have hgg := (unhide HK7).lt
                refine r19_36 _ _ _ _ _ _ _ _ _ _ _ _ _ _ _ _ _ _ _ _ _ _ _ _ _ _ _ _ _ _ _ _ _ _ _ _ _ _ _ _ _ _ _ _ _ _ _ _ _ _ _ _ _ _ _ _ _ _ _ _ _ _ _ _ _ _ _ _ _ _ _ _ _ _ _ _ _ _ _ _ _ _ _ _ _ _ _ _ _ _ _ _ _ _ _ _ _ _ _ _ _ _ _ _ _ _ _ _ _ _ _ _ _ _ _ _ _ _ _ _ _ _ _ _ _ _ _ _ _ _ _ _ _ _ _ _ _ _ _ _ _ _ _ _ _ _ _ _ _ g7 gr (L.length + 2) _ (q0 : Int) (q1 : Int) (by omega) (by omega) (by omega) cr0 cr1 x4 x5 f4 f5 (by omega) _ ?_
                intro y139 y140 y141 y142 y143 y144 y145 y146 y147 y148
                clear x0 x1 x2 x3 x4 x5 f0 f1 f2 f3 f4 f5 cr0 cr1 y0 y1 y2 y3 y4 y5 z0 z1 z2 z3 z4 z5
                have hB0 := Blk.drew (Blk.far (Blk.far ((unhide HKW) _ (unhide HC5)).2 (p := ⟨g7, 4, none⟩) (unhide HNE) (.int .i64 (q0 : Int))) (p := ⟨g7, 5, none⟩) (unhide HNE) (.int .i64 (q1 : Int)))
                have hB7 : Blk _ g7 44 #[.int .i64 3, .string ⟨(([] : Bs) : Bs).toArray⟩, .int .i64 (((0 : Nat) : Nat) : Int), .int .i64 (op : Int), .int .i64 (q0 : Int), .int .i64 (q1 : Int)] := Blk.drew ((((unhide HKW) _ (unhide HC5)).1.set_ 4 (.int .i64 (q0 : Int))).set_ 5 (.int .i64 (q1 : Int)))
                have hCC := Chg.drew (Chg.setCell (Chg.setCell ((unhide HCB).trans' (unhide HC5)) (p := ⟨g7, 4, none⟩) (fun h => absurd (show g7 < w.heap.size from h) (Nat.not_lt.2 (unhide HG70))) (.int .i64 (q0 : Int))) (p := ⟨g7, 5, none⟩) (fun h => absurd (show g7 < w.heap.size from h) (Nat.not_lt.2 (unhide HG70))) (.int .i64 (q1 : Int)))
                generalize ((w5.setCell ⟨g7, 4, none⟩ (.int .i64 (q0 : Int))).setCell ⟨g7, 5, none⟩ (.int .i64 (q1 : Int))).drew = w6 at hB0 hB7 hCC ⊢
                (obtain ⟨⟨y0, y1, y2, y3, y4, y5⟩, z0, z1, z2, z3, z4, z5⟩ := hB0.all6)
                (obtain ⟨⟨x0, x1, x2, x3, x4, x5⟩, f0, f1, f2, f3, f4, f5⟩ := hB7.all6)
                have HB0 := hide hB0
                have HCC := hide hCC
                clear hB0 hB7 hCC
                go_wp2_with fail
                exact bodyPost_ret (line_res (unhide HB0) _ rfl _ _ _ _ _ _) rfl ⟨retv (by rw [unhide HRE]; rfl), put6_chg (unhide HCC) (Nat.le_refl _) _ _ _ _ _ _⟩
          · have hR : opW op rest = wrongL := by
              rw [unhide HOPW]
              unfold doesW
              rw [if_neg hlen]
            obtain ⟨m, hm⟩ : ∃ m, numsN (op : Int) = m := ⟨_, rfl⟩
            rw [hm] at hlen hnl
            have HN1 := hide (unhide HNU m hm)
            have HRE := hide hR
            have e1 : ((rest.length : Int) != (m : Int)) = true := by rw [bne_iff_ne]; omega
            have e2 : ¬ (rest.length : Int) = (m : Int) := by omega
            clear hR hm HNU
            go_wp2_with (first
              | (go_at_call 38; (with_reducible refine (unhide HN1 _).mono ?_); rintro e w4 ⟨rfl, rfl⟩))
            exact bodyPost_ret (line_res (unhide HK0) _ rfl _ _ _ _ _ _) rfl ⟨retv (by rw [unhide HRE]; rfl), put6_chg (unhide HCB) (Nat.le_refl _) _ _ _ _ _ _⟩
        | true =>
          rw [hg] at HGO
          have HGB := hide hg
          cases rest with
          | nil =>
            have HRE := hide (show opW op [] = wrongL by unfold opW; rw [if_pos hg])
            clear hg
            go_wp2_with (go_at_call 34; (with_reducible refine (unhide HGO _).mono ?_); rintro e w4 ⟨rfl, rfl⟩)
            exact bodyPost_ret (line_res (unhide HK0) _ rfl _ _ _ _ _ _) rfl ⟨retv (by rw [unhide HRE]; rfl), put6_chg (unhide HCB) (Nat.le_refl _) _ _ _ _ _ _⟩
          | cons y r2 =>
            obtain ⟨s1, p1⟩ := y
            have hOP : opW op ((s1, p1) :: r2) = if labelB s1 = true then doesW op s1 p1 r2 else wrongL := by unfold opW; rw [if_pos hg]
            clear hg
            obtain ⟨hme1, hme2⟩ := (unhide HME) (s1, p1) (by simp)
            simp only at hme1 hme2
            have HLB := hide (fun W => refLabel_bs s1 hme1 W)
            obtain ⟨k1, k2⟩ := (unhide HATB) wb (Chg.refl _ _) 0 (s1, p1) rfl
            simp only [Nat.zero_add, Nat.one_mul] at k1 k2
            have hl2 : ¬ ((r2.length : Int) + 1 + 1 < 2) := by omega
            have hl3 : (1 : Int) < (r2.length : Int) + 1 + 1 := by omega
            rw [List.length_cons] at hrl
            have HK1 := hide k1
            have HK2 := hide k2
            cases hlb : labelB s1 with
            | false =>
              rw [hlb] at HLB
              have HRE := hide (show opW op ((s1, p1) :: r2) = wrongL by rw [hOP, hlb, if_neg (by simp)])
              clear hOP hlb
              go_wp2_with (first
                | (go_at_call 34; (with_reducible refine (unhide HGO _).mono ?_); rintro e w4 ⟨rfl, rfl⟩)
                | (go_at_call 43; (with_reducible refine (unhide HLB _).mono ?_); rintro e w4 ⟨rfl, rfl⟩))
              exact bodyPost_ret (line_res (unhide HK0) _ rfl _ _ _ _ _ _) rfl ⟨retv (by rw [unhide HRE]; rfl), put6_chg (unhide HCB) (Nat.le_refl _) _ _ _ _ _ _⟩
            | true =>
              rw [hlb] at HLB
              have HOPW := hide (show opW op ((s1, p1) :: r2) = doesW op s1 p1 r2 by rw [hOP, hlb, if_pos rfl])
              clear hOP hlb
              go_upto_region 23 with (first
                | (go_at_call 34; (with_reducible refine (unhide HGO _).mono ?_); rintro e w4 ⟨rfl, rfl⟩)
                | (go_at_call 43; (with_reducible refine (unhide HLB _).mono ?_); rintro e w4 ⟨rfl, rfl⟩))
              refine r19_23 _ _ _ _ _ _ _ _ _ _ _ _ _ _ _ _ _ _ _ _ _ _ _ _ _ _ _ _ _ _ _ _ _ _ _ _ _ _ _ _ _ _ _ _ _ _ _ _ _ _ _ _ _ _ _ _ _ _ _ _ _ _ _ _ _ _ _ _ _ _ _ _ _ _ _ _ _ _ _ _ _ _ _ _ _ _ _ _ _ _ _ _ _ _ _ _ _ _ _ _ _ _ _ _ _ _ _ _ _ _ _ _ _ _ _ _ _ _ _ _ _ _ _ _ _ _ _ _ _ _ _ _ _ _ _ _ _ _ _ _ _ _ _ _ _ _ _ _ _ g7 b o _ _ ⟨s1.toArray⟩ (p1 : Int) (by rw [Int.natCast_add]; omega) (unhide HK1) (unhide HK2) x1 x2 f1 f2 (by have h2 := unhide HBG; omega) _ ?_
              intro y85 y86 y87 y88 y89 y90 y91 y92 y93 y94
              clear x0 x1 x2 x3 x4 x5 f0 f1 f2 f3 f4 f5 y0 y1 y2 y3 y4 y5 z0 z1 z2 z3 z4 z5 k1 k2
              have hB0 := Blk.drew (Blk.far (Blk.far (unhide HK0) (p := ⟨g7, 1, none⟩) (unhide HNE) (.string ⟨s1.toArray⟩)) (p := ⟨g7, 2, none⟩) (unhide HNE) (.int .i64 (p1 : Int)))
              have hB7 : Blk _ g7 44 #[.int .i64 3, .string ⟨s1.toArray⟩, .int .i64 (p1 : Int), .int .i64 (op : Int), .int .i64 0, .int .i64 0] := Blk.drew (((unhide HK7).set_ 1 (.string ⟨s1.toArray⟩)).set_ 2 (.int .i64 (p1 : Int)))
              have hCC := Chg.drew (Chg.setCell (Chg.setCell (unhide HCB) (p := ⟨g7, 1, none⟩) (fun h => absurd (show g7 < w.heap.size from h) (Nat.not_lt.2 (unhide HG70))) (.string ⟨s1.toArray⟩)) (p := ⟨g7, 2, none⟩) (fun h => absurd (show g7 < w.heap.size from h) (Nat.not_lt.2 (unhide HG70))) (.int .i64 (p1 : Int)))
              have hAT := fun W (hW : Chg (fun _ => False) (((wb.setCell ⟨g7, 1, none⟩ (.string ⟨s1.toArray⟩)).setCell ⟨g7, 2, none⟩ (.int .i64 (p1 : Int))).drew) W) (k : Nat) (x : Bs × Nat) (hx : r2[k]? = some x) => show W.cell? ⟨b, o + (k + 2) * 2, none⟩ = some (.string ⟨x.1.toArray⟩) ∧ W.cell? ⟨b, o + (k + 2) * 2 + 1, none⟩ = some (.int .i64 (x.2 : Int)) from by
                obtain ⟨h1, h2⟩ := (unhide HATB) wb (Chg.refl _ _) (k + 1) x (by rw [List.getElem?_cons_succ]; exact hx)
                have hcc : Chg (fun j => j = g7) wb W := ((((Chg.refl (fun j => j = g7) wb).setCell (p := ⟨g7, 1, none⟩) (fun _ => rfl) (.string ⟨s1.toArray⟩)).setCell (p := ⟨g7, 2, none⟩) (fun _ => rfl) (.int .i64 (p1 : Int))).drew).trans hW (fun _ _ h => h.elim)
                have hbg := unhide HBG
                exact ⟨(hcc.cell (World.block_lt_of_cell? wb _ h1) (show ¬ b = g7 by omega)).trans h1, (hcc.cell (World.block_lt_of_cell? wb _ h2) (show ¬ b = g7 by omega)).trans h2⟩
              generalize ((wb.setCell ⟨g7, 1, none⟩ (.string ⟨s1.toArray⟩)).setCell ⟨g7, 2, none⟩ (.int .i64 (p1 : Int))).drew = wt at hB0 hB7 hCC hAT ⊢
              clear HK7 HK0
              have HK7 := hide hB7
              have HK0 := hide hB0
              have HCT := hide hCC
              have HATT := hide hAT
              clear hB0 hB7 hCC hAT HCB HATB HK1 HK2
              have HNU := hide (fun n h W => refNum_of op n h W)
              have hnl := numsN_le (op : Int)
              have HKW := hide (fun W (hW : Chg (fun _ => False) wt W) => show Blk W g7 44 #[.int .i64 3, .string ⟨(s1 : Bs).toArray⟩, .int .i64 ((p1 : Nat) : Int), .int .i64 (op : Int), .int .i64 0, .int .i64 0] ∧ Blk W w.heap.size 44 zero6 from ⟨(unhide HK7).chg hW id, (unhide HK0).chg hW id⟩)
              obtain ⟨⟨x0, x1, x2, x3, x4, x5⟩, f0, f1, f2, f3, f4, f5⟩ := (unhide HK7).all6
              obtain ⟨⟨y0, y1, y2, y3, y4, y5⟩, z0, z1, z2, z3, z4, z5⟩ := (unhide HK0).all6
              by_cases hlen : r2.length = numsN (op : Int)
              · obtain ⟨m, hm⟩ : ∃ m, numsN (op : Int) = m := ⟨_, rfl⟩
                rw [hm] at hlen hnl
                have HN1 := hide (unhide HNU m hm)
                clear HNU
                have hlm : ((r2.length : Int)) = (m : Int) := by omega
                obtain ⟨i_i, i_hi, i_hz, i_hs, i_hb⟩ := info_parts infoI
                have HDW := hide (fun (L : List Nat) (hL : numsW r2 = some L) => show opW op ((s1, p1) :: r2) = ⟨3, s1, p1, ⟨(op : Int), 0, L.getD 0 0⟩⟩ from by
                  rw [unhide HOPW]
                  unfold doesW
                  rw [if_pos (by rw [hlen, hm]), hL]
                  simp only [unhide HGB]
                  rfl)
                have HDN := hide (fun (hL : numsW r2 = none) => show opW op ((s1, p1) :: r2) = wrongL from by
                  rw [unhide HOPW]
                  unfold doesW
                  rw [if_pos (by rw [hlen, hm]), hL])
                have HO0 := hide (own_start (base := wt.heap.size) (size := 1) (Blk.new wt 3 #[]) (Nat.le_refl _))
                have HCA := hide ((Chg.refl (fun _ => False) wt).alloc (.cells #[] 3))
                have HLEN := hide hlen
                have hm2 : m ≤ 2 := hnl
                have e1 : (((r2.length : Int)) != (m : Int)) = false := by rw [hlm]; simp
                have e2 : ((r2.length : Int) + 1 + 1 - 2 != (m : Int)) = false := by rw [show (r2.length : Int) + 1 + 1 - 2 = (m : Int) by omega]; simp
                have hml : r2.length ≤ 2 := by omega
                clear hlm
                clear hlen hm hnl
                go_wp2_with (first
                  | (go_at_call 38; (with_reducible refine (unhide HN1 _).mono ?_); rintro e w4 ⟨rfl, rfl⟩))
                clear x0 x1 x2 x3 x4 x5 f0 f1 f2 f3 f4 f5 y0 y1 y2 y3 y4 y5 z0 z1 z2 z3 z4 z5
                go_loopw [10, 11] (fun row iv_ wr => ∃ i : Nat, iv_ = .int .i64 (i : Int) ∧ 2 ≤ i ∧ i ≤ r2.length + 2 ∧ wr.ownsRow wt.heap.size 3 1 row (nvals (r2.take (i - 2))).length ((nvals (r2.take (i - 2))).map iv) ∧ Chg (fun _ => False) wt wr ∧ ∀ y ∈ r2.take (i - 2), numB y.1 ≠ none) (fun _ iv_ _ => r2.length + 2 - (intOf iv_).toNat)
                case atStart => exact ⟨2, rfl, Nat.le_refl _, Nat.le_add_left _ _, by rw [Nat.sub_self]; exact unhide HO0, unhide HCA, by rw [Nat.sub_self]; intro y hy; cases hy⟩
                case round =>
                  clear HO0 HCA
                  obtain ⟨wz, rfl⟩ : ∃ wz : World, wz = wr := ⟨_, rfl⟩
                  obtain ⟨i, rfl, hi1, hi2, hown, hch, hgood⟩ := hrel
                  obtain ⟨B, c5, rfl⟩ := own_val hown
                  have HCH := hide hch
                  have HGD := hide hgood
                  have hvl := nvals_len (r2.take (i - 2))
                  rw [List.length_take] at hvl
                  by_cases hlt : i < r2.length + 2
                  · have hki : (i : Int) < (r2.length : Int) + 2 := by omega
                    have hki2 : (i : Int) < (r2.length : Int) + 1 + 1 := by omega
                    have hxx : r2[i - 2]? = some (r2[i - 2]'(by omega)) := List.getElem?_eq_getElem (by omega)
                    generalize r2[i - 2]'(by omega) = x at *
                    obtain ⟨k1, k2⟩ := (unhide HATT) wz hch (i - 2) x hxx
                    rw [show i - 2 + 2 = i by omega] at k1 k2
                    have hmx := (unhide HME) x (List.mem_cons_of_mem _ (List.mem_of_getElem? hxx))
                    obtain ⟨xb, xp⟩ := x
                    simp only at k1 k2 hmx
                    have HNR := hide (fun W => refNumber_bs xb hmx.1 W)
                    clear hch hgood hmx
                    cases hnb2 : numB xb with
                    | none =>
                      have hdn := (unhide HDN) (numsW_none (x := (xb, xp)) (List.mem_of_getElem? hxx) hnb2)
                      have HRE := hide hdn
                      rw [numR_none hnb2] at HNR
                      obtain ⟨⟨y0, y1, y2, y3, y4, y5⟩, z0, z1, z2, z3, z4, z5⟩ := ((unhide HKW) _ (unhide HCH)).2.all6
                      have HKZ := hide ((unhide HKW) _ (unhide HCH)).2
                      clear hdn hnb2 hxx hown HGD hvl
                      go_wp2_with (first
                        | (go_at_call 44; (with_reducible refine (unhide HNR _).mono ?_); rintro e w5 ⟨rfl, rfl⟩))
                      exact bodyPost_ret (line_res (unhide HKZ) _ rfl _ _ _ _ _ _) rfl ⟨retv (by rw [unhide HRE]; rfl), put6_chg ((unhide HCT).trans' (unhide HCH)) (Nat.le_refl _) _ _ _ _ _ _⟩
                    | some nv =>
                      have HSN := hide (nvals_snoc (x := (xb, xp)) hxx hnb2)
                      have HGN := hide (good_snoc (x := (xb, xp)) hxx (by simp only; rw [hnb2]; exact Option.some_ne_none _) (unhide HGD))
                      have hnle := numB_le hnb2
                      rw [numR_some hnb2] at HNR
                      clear hnb2 hxx HGD
                      generalize nvals (r2.take (i - 2)) = V0 at *
                      have hm1 : V0.length + 1 ≤ maxLen := by simp only [maxLen]; omega
                      have hm2b : (V0.length + 1) * 8 ≤ 140737488355328 := by omega
                      have HRN := hide (fun W : World => (rd_new W W.heap.size 3 [iv (nv : Int)] rfl).mono (T' := fun _ => True) (fun _ _ => trivial))
                      have HO4 := hide hown
                      have hb4 : wt.heap.size ≤ (wz.alloc (.cells #[iv (nv : Int)] 3)).heap.size := ((unhide HCH).alloc (.cells #[iv (nv : Int)] 3)).size
                      have HONE := hide (one_int (nv : Int))
                      have hnn : ¬ (nv : Int) < 0 := by omega
                      clear hown hvl
                      go_wp2_with (first
                        | (go_at_call 44; (with_reducible refine (unhide HNR _).mono ?_); rintro e w5 ⟨rfl, rfl⟩)
                        | (at_builtin; (refine wpList_append_rd _ rfl (.tmp 121) (.tmp 128) 36 rfl wt.heap.size 3 i_i (.int .i64 0) 1 8 Tryd.underlying36 i_hi i_hz i_hs i_hb rfl (by decide) _ V0.length _ rfl ((unhide HO4).alloc _) (fun _ => True) (some ⟨wz.heap.size, 0, none⟩) 1 1 [iv (nv : Int)] rfl rfl ((unhide HRN) wz) (unhide HONE) hm1 hm2b hb4 ?_); intro v5 w5 ho_ hc_ hat_; (have HO5 := hide ho_); (have HC5 := hide ((unhide HCH).trans (((Chg.refl (fun k => (Value.slice B V0.length c5).ownBlock = some k) wz).alloc (.cells #[iv (nv : Int)] 3)).trans hc_ (fun _ _ h => h)) (fun i hi e => by have := ((unhide HO4).lt i e).1; omega))); clear ho_ hc_ hat_))
                      go_roundw
                      case rel =>
                        refine ⟨i + 1, by go_num, by omega, by omega, ?_, unhide HC5, ?_⟩
                        · rw [show i + 1 - 2 = i - 2 + 1 by omega, unhide HSN, List.length_append, List.map_append]
                          exact unhide HO5
                        · rw [show i + 1 - 2 = i - 2 + 1 by omega]
                          exact unhide HGN
                      case measure => simp [intOf]; omega
                  · obtain rfl : i = r2.length + 2 := by omega
                    have hki : ¬ ((r2.length + 2 : Nat) : Int) < (r2.length : Int) + 1 + 1 := by omega
                    have htk : r2.take (r2.length + 2 - 2) = r2 := by rw [Nat.add_sub_cancel, List.take_length]
                    rw [htk] at hown ⊢
                    have hgd := unhide HGD
                    rw [htk] at hgd
                    obtain ⟨L, hL1, hL2⟩ := nvals_some hgd
                    rw [hL2] at hown ⊢
                    have hll : L.length = r2.length := by
                      have := congrArg List.length hL2
                      rw [nvals_len, List.length_map] at this
                      omega
                    have HRE := hide ((unhide HDW) L hL1)
                    rw [List.length_map, List.map_map] at hown
                    rw [List.length_map]
                    have hm1 : L.length + 2 ≤ maxLen := by simp only [maxLen]; omega
                    have hm2b : (L.length + 2) * 8 ≤ 140737488355328 := by omega
                    have HRN := hide (fun W : World => (rd_new W W.heap.size 3 [iv 0, iv 0] rfl).mono (T' := fun _ => True) (fun _ _ => trivial))
                    have hb4 : wt.heap.size ≤ (wz.alloc (.cells #[iv 0, iv 0] 3)).heap.size := ((unhide HCH).alloc (.cells #[iv 0, iv 0] 3)).size
                    have HONE := hide (two_int 0 0)
                    rw [← hll] at hki
                    have HZ0 := hide (rowz L 0 (by omega))
                    have HZ1 := hide (rowz L 1 (by omega))
                    have hL0 : 0 < L.length + 2 := by omega
                    have hL1b : 1 < L.length + 2 := by omega
                    have hi0 : (0 : Int) < (L.length : Int) + 2 := by omega
                    have hi1b : (1 : Int) < (L.length : Int) + 2 := by omega
                    have HO4 := hide hown
                    have HG0 := hide (unhide HK0).lt
                    rw [hll] at hki
                    clear hch hgood hgd hL1 hL2 htk hvl hlt hi1 hi2 HGD HME hown
                    rw [← hll]
                    have HLL := hide hll
                    clear hll
                    generalize hq0 : L.getD 0 0 = q0 at *
                    generalize hq1 : L.getD 1 0 = q1 at *
                    clear hq0 hq1
                    go_upto_region 37 with (first
                      | (at_builtin; (refine wpList_append_rd _ rfl (.tmp 130) (.tmp 131) 36 rfl wt.heap.size 3 i_i (.int .i64 0) 1 8 Tryd.underlying36 i_hi i_hz i_hs i_hb rfl (by decide) _ L.length _ rfl ((unhide HO4).alloc _) (fun _ => True) (some ⟨wz.heap.size, 0, none⟩) 2 2 [iv 0, iv 0] rfl rfl ((unhide HRN) wz) (unhide HONE) hm1 hm2b hb4 ?_); intro v5 w5 ho_ hc_ hat_; (obtain ⟨gr, capr, rfl, hgr1, hgr2⟩ := World.ownsRow.form ho_ hL0); (have cr0 := World.ownsRow.cellAt ho_ 0 (by omega)); (have cr1 := World.ownsRow.cellAt ho_ 1 (by omega)); rw [unhide HZ0] at cr0; rw [unhide HZ1] at cr1; simp only [iv] at cr0 cr1; (have HO5 := hide ho_); (have HC5 := hide ((unhide HCH).trans (((Chg.refl (fun k => (Value.slice B L.length c5).ownBlock = some k) wz).alloc (.cells #[iv 0, iv 0] 3)).trans hc_ (fun _ _ h => h)) (fun i hi e => by have := ((unhide HO4).lt i e).1; omega))); clear ho_ hc_ hat_; (obtain ⟨⟨x0, x1, x2, x3, x4, x5⟩, f0, f1, f2, f3, f4, f5⟩ := ((unhide HKW) _ (unhide HC5)).1.all6); (obtain ⟨⟨y0, y1, y2, y3, y4, y5⟩, z0, z1, z2, z3, z4, z5⟩ := ((unhide HKW) _ (unhide HC5)).2.all6)))
                    have hgg := (unhide HK7).lt
                    have hB0 := Blk.far ((unhide HKW) _ (unhide HC5)).2 (p := ⟨g7, 5, none⟩) (unhide HNE) (.int .i64 (q0 : Int))
                    have hB7 : Blk _ g7 44 #[.int .i64 3, .string ⟨(s1 : Bs).toArray⟩, .int .i64 ((p1 : Nat) : Int), .int .i64 (op : Int), .int .i64 0, .int .i64 (q0 : Int)] := ((unhide HKW) _ (unhide HC5)).1.set_ 5 (.int .i64 (q0 : Int))
                    have hCC := Chg.setCell ((unhide HCT).trans' (unhide HC5)) (p := ⟨g7, 5, none⟩) (fun h => absurd (show g7 < w.heap.size from h) (Nat.not_lt.2 (unhide HG70))) (.int .i64 (q0 : Int))
                    generalize w5.setCell ⟨g7, 5, none⟩ (.int .i64 (q0 : Int)) = w6 at hB0 hB7 hCC ⊢
                    clear x0 x1 x2 x3 x4 x5 f0 f1 f2 f3 f4 f5 cr0 cr1 y0 y1 y2 y3 y4 y5 z0 z1 z2 z3 z4 z5
                    (obtain ⟨⟨y0, y1, y2, y3, y4, y5⟩, z0, z1, z2, z3, z4, z5⟩ := hB0.all6)
                    (obtain ⟨⟨x0, x1, x2, x3, x4, x5⟩, f0, f1, f2, f3, f4, f5⟩ := hB7.all6)
                    have HB0 := hide hB0
                    have HCC := hide hCC
                    clear hB0 hB7 hCC
                    go_wp2_with fail
                    exact bodyPost_ret (line_res (unhide HB0) _ rfl _ _ _ _ _ _) rfl ⟨retv (by rw [unhide HRE]; rfl), put6_chg (unhide HCC) (Nat.le_refl _) _ _ _ _ _ _⟩
              · have hR : opW op ((s1, p1) :: r2) = wrongL := by
                  rw [unhide HOPW]
                  unfold doesW
                  rw [if_neg hlen]
                obtain ⟨m, hm⟩ : ∃ m, numsN (op : Int) = m := ⟨_, rfl⟩
                rw [hm] at hlen hnl
                have HN1 := hide (unhide HNU m hm)
                have HRE := hide hR
                have e1 : ((r2.length : Int) != (m : Int)) = true := by rw [bne_iff_ne]; omega
                have e2 : ¬ (r2.length : Int) = (m : Int) := by omega
                clear hR hm HNU
                go_wp2_with (first
                  | (go_at_call 38; (with_reducible refine (unhide HN1 _).mono ?_); rintro e w4 ⟨rfl, rfl⟩))
                exact bodyPost_ret (line_res (unhide HK0) _ rfl _ _ _ _ _ _) rfl ⟨retv (by rw [unhide HRE]; rfl), put6_chg (unhide HCT) (Nat.le_refl _) _ _ _ _ _ _⟩
end Go.Proofs.YtgonllogaiiicaaDoor
