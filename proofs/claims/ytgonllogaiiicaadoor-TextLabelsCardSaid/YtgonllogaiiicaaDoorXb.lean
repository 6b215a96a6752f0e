/-
  Layer 17: the law TextLabels.
-/
import Derived.Test.YtgonllogaiiicaaDoorWz
import Derived.Test.YtgonllogaiiicaaDoorXa
namespace Go.Proofs.YtgonllogaiiicaaDoor
open Go.RowKit
set_option maxHeartbeats 4000000
set_option maxRecDepth 100000
theorem renLine_long (a b x : Bs) : (renLine a b x).length ≤ x.length + b.length := by
  unfold renLine
  split
  · rw [List.length_append, List.length_append, List.length_take, List.length_drop]; omega
  · omega
theorem joinL_long {M : Nat} : ∀ (xs : List Bs), (∀ x ∈ xs, x.length ≤ M) → (joinL xs).length ≤ xs.length * (M + 1)
  | [], _ => Nat.zero_le _
  | [x], h => by have := h x (by simp); show x.length ≤ 1 * (M + 1); omega
  | x :: y :: r, h => by
    have ih := joinL_long (y :: r) (fun z hz => h z (by simp [hz]))
    have hx := h x (by simp)
    rw [joinL_cons x (by simp), List.length_append, List.length_cons, List.length_cons, Nat.succ_mul]
    omega
theorem joined_len {a b : Bs} {LS : List Bs} (h : ∀ x ∈ LS, x.length ≤ 600) (hb : b.length ≤ 40) (k : Nat) : (joinL ((LS.take k).map (renLine a b))).length ≤ k * 641 := by
  have h1 := joinL_long (M := 640) ((LS.take k).map (renLine a b)) (fun y hy => by
    obtain ⟨z, hz, rfl⟩ := List.mem_map.1 hy
    have := h z (List.mem_of_mem_take hz)
    have := renLine_long a b z
    omega)
  have h2 : ((LS.take k).map (renLine a b)).length ≤ k := by rw [List.length_map, List.length_take]; omega
  exact Nat.le_trans h1 (Nat.mul_le_mul_right _ h2)
theorem join_first {f : Bs → Bs} {LS : List Bs} {k : Nat} {x : Bs} (h : LS.take (k + 1) = LS.take k ++ [x]) (e : k = 0) : (⟨(joinL ((LS.take (k + 1)).map f)).toArray⟩ : ByteArray) = ⟨(joinL ((LS.take k).map f)).toArray⟩ ++ ⟨(f x).toArray⟩ := by
  subst e
  rw [h, ByteArray.mk_append_mk]
  rfl
theorem join_more {f : Bs → Bs} {LS : List Bs} {k : Nat} {x : Bs} (h : LS.take (k + 1) = LS.take k ++ [x]) (hk : k < LS.length) (e : 0 < k) : (⟨(joinL ((LS.take (k + 1)).map f)).toArray⟩ : ByteArray) = ⟨(joinL ((LS.take k).map f)).toArray⟩ ++ ⟨#[10]⟩ ++ ⟨(f x).toArray⟩ := by
  rw [h, List.map_append, List.map_singleton, joinL_snoc _ _ (fun e2 => by
    have := congrArg List.length e2
    rw [List.length_map, List.length_take, List.length_nil] at this
    omega), ByteArray.mk_append_mk, ByteArray.mk_append_mk]
  simp
theorem textLabels_any (s a b : Bs) (w : World) (hl : Lay w) : Calls Tryd.prog 7 #[.string ⟨s.toArray⟩, .string ⟨a.toArray⟩, .string ⟨b.toArray⟩] w fun e w' => e = .returned (.bool true) ∧ Chg (fun _ => False) w w' := by
  obtain ⟨q_i, q_hi, q_hz, q_hs, q_hb⟩ := info_parts infoStr
  obtain ⟨i_i, i_hi, i_hz, i_hs, i_hb⟩ := info_parts infoIn
  have HAW := hide (fun W (hW : Chg (fun _ => False) w W) => awake_any W (hl.chg hW (fun _ _ => id)))
  by_cases h1 : s.length ≤ 600
  · have hl1 : ¬ (600 : Int) < (s.length : Int) := by omega
    by_cases h2 : a.length ≤ 40
    · have hl2 : ¬ (40 : Int) < (a.length : Int) := by omega
      by_cases h3 : b.length ≤ 40
      · have hl3 : ¬ (40 : Int) < (b.length : Int) := by omega
        have hd : (ByteArray.data ⟨s.toArray⟩).toList = s := by simp
        have hln := lines_le s
        have hlb := fun W (hW : Chg (fun _ => False) w W) => labels_any ⟨s.toArray⟩ W (hl.chg hW (fun _ _ => id)) (by rw [bs_size]; omega)
        have hli := fun W => refLines_any ⟨s.toArray⟩ W (by rw [bs_size]; omega)
        rw [hd] at hlb hli
        have HRN := hide (fun W (hW : Chg (fun _ => False) w W) bm n (hm : MapS W bm n (fun z => if z = a then some b else none)) => rename_any s a b W (hl.chg hW (fun _ _ => id)) (by omega) (by omega) (by omega) bm n hm)
        have HMO := hide (fun W => map_one W a b (by omega) (by omega))
        have HRT := hide (show renT s a b = joinL ((linesL s).map (renLine a b)) from rfl)
        have HLE := hide (fun x (hx : x ∈ linesL s) => show x.length ≤ 600 from by have h1 := line_len hx; omega)
        have hls : (linesL s).length ≤ 601 := by omega
        generalize renT s a b = RT at *
        generalize linesL s = LS at *
        have HLB := hide hlb
        have HLI := hide hli
        clear hlb hli hd hln hl
        go_enter Tryd.func7, Tryd.ntmps7
        go_upto_region 4 with (first
          | (go_at_call 9; (with_reducible refine (unhide HAW _ (Chg.refl _ _)).mono ?_); rintro e w1 ⟨rfl, hc1⟩; have HC1 := hide hc1; clear hc1)
          | (go_at_call 17; (refine (unhide HLB _ (unhide HC1)).mono ?_); rintro e w2 ⟨A2, c2, B2, d2, rfl, hr2, hs2, hc2⟩; have HR2 := hide hr2.low; have HS2 := hide hs2.low; have HC2 := hide ((unhide HC1).trans' hc2); clear hc2 hr2 hs2))
        go_wp2_with (go_at_call 18; (refine (unhide HLI _).mono ?_); rintro e wa ⟨A3, c3, rfl, hr3, hc3⟩; have HR := hide hr3.low; have HR23 := hide ((unhide HR2).chg hc3 (fun _ _ _ => id)).low; have HS23 := hide ((unhide HS2).chg hc3 (fun _ _ _ => id)).low; have HCA := hide ((unhide HC2).trans' hc3); clear hr3 hc3)
        have hca := (Chg.refl (fun _ => False) wa).alloc (.cells #[] 9)
        have HO0 := hide ((own_start (base := wa.heap.size) (size := 1) (Blk.new wa 9 #[]) (Nat.le_refl _)).alloc (.cells #[] 3))
        have hp0 := own_start (base := wa.heap.size) (size := 1) (Blk.new (wa.alloc (.cells #[] 9)) 3 #[]) hca.size
        have hz9 : (wa.alloc (.cells #[] 9)).heap.size = wa.heap.size + 1 := by first | (show (wa.heap.push _).size = _; rw [Array.size_push]) | simp
        rw [hz9] at hp0
        have HP0 := hide hp0
        clear hp0 hz9
        have HC0 := hide (hca.alloc (.cells #[] 3))
        clear hca
        go_loopw [10, 11, 12, 13] (fun wn an rn i wr => ∃ k : Nat, i = .int .i64 (k : Int) ∧ k ≤ LS.length ∧ wr.ownsRow wa.heap.size 9 1 wn (labs LS k).length ((labs LS k).map lab1) ∧ wr.ownsRow wa.heap.size 3 1 an (labs LS k).length ((labs LS k).map lab2) ∧ rn = .string ⟨(joinL ((LS.take k).map (renLine a b))).toArray⟩ ∧ Chg (fun _ => False) wa wr) (fun _ _ _ i _ => LS.length - (intOf i).toNat)
        case atStart => exact ⟨0, rfl, Nat.zero_le _, unhide HO0, unhide HP0, rfl, unhide HC0⟩
        case round =>
          clear HO0 HP0 HC0
          obtain ⟨wq, rfl⟩ : ∃ wq : World, wq = wr := ⟨_, rfl⟩
          obtain ⟨k, rfl, hk, hown, hown2, rfl, hch⟩ := hrel
          obtain ⟨B, c5, rfl⟩ := own_val hown
          obtain ⟨D, c6, rfl⟩ := own_val hown2
          have HCH := hide hch
          have HOW := hide hown
          have HPW := hide hown2
          by_cases hlt : k < LS.length
          · have hki : (k : Int) < (LS.length : Int) := by omega
            have hx := List.getElem?_eq_getElem hlt
            generalize LS[k] = x at *
            have hxl := (unhide HLE) x (List.mem_of_getElem? hx)
            have HLN := hide (labs_next hx)
            have hll2 := labs_len LS k
            have HTK := hide (take_snoc' hx)
            obtain ⟨b1, o1, rfl, hT1, h1⟩ := map_at (unhide HR) (by rintro rfl; simp at hlt)
            have k1 := h1 k hlt
            rw [show LS[k] = x from (List.getElem?_eq_some_iff.1 hx).2] at k1
            simp only [bv] at k1
            have HRE := hide (refRead1_any ⟨x.toArray⟩ wq (by rw [bs_size]; omega))
            have hdx : (ByteArray.data ⟨x.toArray⟩).toList = x := by simp
            rw [hdx] at HRE
            clear hown hown2 hx h1 hdx
            have HK1 := hide (fun W (hW : Chg (fun _ => False) wa W) => (hW.cell (p := ⟨b1, _, none⟩) hT1 id).trans k1)
            have k1 := (unhide HK1) wq hch
            obtain ⟨X0, hX⟩ : ∃ X0, readL x = X0 := ⟨_, rfl⟩
            rw [hX] at HRE HLN
            unfold lnV at HRE
            obtain ⟨kd, lb, pt, ii⟩ := X0
            simp only at HRE HLN
            have HSP := hide (show 2 ≤ kd → lb ≠ [] → pt + lb.length ≤ x.length from by
              intro q1 q2
              obtain ⟨u, v, e, e2, _⟩ := readL_split x (by rw [hX]; exact q1) (by rw [hX]; exact q2)
              rw [hX] at e e2
              simp only at e e2
              have := congrArg List.length e
              rw [List.length_append, List.length_append] at this
              omega)
            have HYES := hide (fun q1 q2 q3 => ren_yes (a := a) (b := b) hX q1 q2 q3)
            have HNOT := hide (fun q => ren_no (a := a) (b := b) hX q)
            have hrn := joined_len (b := b) (a := a) (LS := LS) (unhide HLE) h3 k
            have hrk : k * 641 ≤ 601 * 641 := Nat.mul_le_mul_right _ (by omega)
            have HJ0 := hide (fun (e : k = 0) => join_first (f := renLine a b) (unhide HTK) e)
            have HJ1 := hide (fun (e : 0 < k) => join_more (f := renLine a b) (unhide HTK) hlt e)
            obtain ⟨RB, hRB⟩ : ∃ RB, (⟨(joinL ((LS.take k).map (renLine a b))).toArray⟩ : ByteArray) = RB := ⟨_, rfl⟩
            have hrs : RB.size ≤ 601 * 641 := by rw [← hRB, bs_size]; omega
            rw [hRB] at HJ0 HJ1 ⊢
            obtain ⟨X, hXE⟩ : ∃ X, (⟨x.toArray⟩ : ByteArray) = X := ⟨_, rfl⟩
            have HXS := hide (show X.size ≤ 600 from by rw [← hXE, bs_size]; exact hxl)
            have HXL := hide (show X.size = x.length from by rw [← hXE, bs_size])
            rw [hXE] at k1 HK1 HRE
            have HXE := hide hXE
            have HO3 := hide (unhide HOW)
            have HP3 := hide (unhide HPW)
            obtain ⟨L, hL⟩ : ∃ L, (⟨lb.toArray⟩ : ByteArray) = L := ⟨_, rfl⟩
            rw [hL] at HRE
            have HLB2 := hide hL
            clear hRB hXE hL hrn hrk hX hxl HOW HPW hch
            generalize labs LS k = V at *
            go_upto_region 10 with (go_at_call 19; (with_reducible refine (unhide HRE).mono ?_); rintro e w3 ⟨rfl, hc3⟩; have HC3 := hide hc3; clear hc3)
            have hc4 : Chg (fun _ => False) w3 (w3.alloc (.cells #[.int .i64 (kd : Int), .string L, .int .i64 (pt : Int), .int .i64 ii.op, .int .i64 ii.a, .int .i64 ii.b] 44)) := (Chg.refl _ w3).alloc _
            have bk := Blk.new w3 44 #[.int .i64 (kd : Int), .string L, .int .i64 (pt : Int), .int .i64 ii.op, .int .i64 ii.a, .int .i64 ii.b]
            obtain ⟨g14, hg⟩ : ∃ g14, w3.heap.size = g14 := ⟨_, rfl⟩
            rw [hg] at bk ⊢
            generalize (w3.alloc (.cells #[.int .i64 (kd : Int), .string L, .int .i64 (pt : Int), .int .i64 ii.op, .int .i64 ii.a, .int .i64 ii.b] 44)) = w4 at *
            have hc34 := (unhide HC3).trans' hc4
            have HO4 := hide (own_chg (unhide HO3) hc34 (fun _ _ => id))
            have HP4 := hide (own_chg (unhide HP3) hc34 (fun _ _ => id))
            have HC4 := hide ((unhide HCH).trans' hc34)
            have HBX := hide bk
            clear k1
            have k1 := (unhide HK1) w4 (unhide HC4)
            clear HO3 HP3 HCH hc34 hc4 HC3 HRE bk hg HK1
            go_upto_region 11 with fail
            clear k1
            by_cases hk2 : kd = 2
            · have hkd : ((kd : Int) == 2) = true := beq_iff_eq.2 (by omega)
              have HLN2 := hide (show labs LS (k + 1) = V ++ [(lb, k)] by rw [unhide HLN, if_pos hk2])
              have HK2 := hide hk2
              clear HLN hk2
              have hm1 : V.length + 1 ≤ maxLen := by simp only [maxLen]; omega
              have hm2 : (V.length + 1) * 16 ≤ 140737488355328 := by omega
              have hm3 : (V.length + 1) * 8 ≤ 140737488355328 := by omega
              have hb4 : wa.heap.size ≤ (w4.alloc (.cells #[lab1 (lb, k)] 9)).heap.size := ((unhide HC4).alloc (.cells #[lab1 (lb, k)] 9)).size
              have HRNW := hide (fun W : World => (rd_new W W.heap.size 9 [lab1 (lb, k)] rfl).mono (T' := fun _ => True) (fun _ _ => trivial))
              have HRM := hide (fun W : World => (rd_new W W.heap.size 3 [lab2 (lb, k)] rfl).mono (T' := fun _ => True) (fun _ _ => trivial))
              have HON1 := hide (lab1_one (lb, k))
              have HON2 := hide (lab2_one (lb, k))
              obtain ⟨x0, x1⟩ : w4.cell? ⟨g14, 0, none⟩ = some (.int .i64 (kd : Int)) ∧ w4.cell? ⟨g14, 1, none⟩ = some (.string L) := ⟨(unhide HBX).cell 0, (unhide HBX).cell 1⟩
              rw [← unhide HLB2] at x1
              go_upto_region 13 with (first | (at_builtin; (refine wpList_append_rd _ rfl (.tmp 61) (.tmp 64) 35 rfl wa.heap.size 9 q_i (.string ⟨#[]⟩) 1 16 Tryd.underlying35 q_hi q_hz q_hs q_hb rfl (by decide) _ V.length _ rfl ((unhide HO4).alloc _) (fun _ => True) (some ⟨w4.heap.size, 0, none⟩) 1 1 [lab1 (lb, k)] rfl rfl ((unhide HRNW) w4) (unhide HON1) hm1 hm2 hb4 ?_); intro v5 w5 ho_ hc_ hat_; (have HP5 := hide (own_chg ((unhide HP4).alloc (.cells #[lab1 (lb, k)] 9)) hc_ (fun j h1 h2 => own_own_ne ((unhide HO4).alloc (.cells #[lab1 (lb, k)] 9)) ((unhide HP4).alloc (.cells #[lab1 (lb, k)] 9)) (by decide) j h2 h1))); (have HO5 := hide ho_); (have HK5 := hide (((unhide HBX).alloc (.cells #[lab1 (lb, k)] 9)).chg hc_ (fun h => own_blk_ne ((unhide HO4).alloc (.cells #[lab1 (lb, k)] 9)) ((unhide HBX).alloc (.cells #[lab1 (lb, k)] 9)) (by decide) h))); (have HC5 := hide ((unhide HC4).trans (((Chg.refl (fun z_ => (Value.slice B V.length c5).ownBlock = some z_) w4).alloc (.cells #[lab1 (lb, k)] 9)).trans hc_ (fun _ _ h => h)) (fun i hi e => by have := ((unhide HO4).lt i e).1; omega))); (have hb5 : wa.heap.size ≤ (w5.alloc (.cells #[lab2 (lb, k)] 3)).heap.size := ((unhide HC5).alloc (.cells #[lab2 (lb, k)] 3)).size); clear ho_ hc_ hat_) | (at_builtin; (refine wpList_append_rd _ rfl (.tmp 66) (.tmp 68) 36 rfl wa.heap.size 3 i_i (.int .i64 0) 1 8 Tryd.underlying36 i_hi i_hz i_hs i_hb rfl (by decide) _ V.length _ rfl ((unhide HP5).alloc _) (fun _ => True) (some ⟨w5.heap.size, 0, none⟩) 1 1 [lab2 (lb, k)] rfl rfl ((unhide HRM) w5) (unhide HON2) hm1 hm3 hb5 ?_); intro v6 w6 ho_ hc_ hat_; (have HO6 := hide (own_chg ((unhide HO5).alloc (.cells #[lab2 (lb, k)] 3)) hc_ (fun j h1 h2 => own_own_ne ((unhide HP5).alloc (.cells #[lab2 (lb, k)] 3)) ((unhide HO5).alloc (.cells #[lab2 (lb, k)] 3)) (by decide) j h2 h1))); (have HP6 := hide ho_); (have HK6 := hide (((unhide HK5).alloc (.cells #[lab2 (lb, k)] 3)).chg hc_ (fun h => own_blk_ne ((unhide HP5).alloc (.cells #[lab2 (lb, k)] 3)) ((unhide HK5).alloc (.cells #[lab2 (lb, k)] 3)) (by decide) h))); (have HC6 := hide ((unhide HC5).trans (((Chg.refl (fun z_ => (Value.slice D V.length c6).ownBlock = some z_) w5).alloc (.cells #[lab2 (lb, k)] 3)).trans hc_ (fun _ _ h => h)) (fun i hi e => by have := ((unhide HP5).lt i e).1; omega))); clear ho_ hc_ hat_))
              clear x0 x1 hkd
              obtain ⟨x0, x1, x2⟩ : w6.cell? ⟨g14, 0, none⟩ = some (.int .i64 (kd : Int)) ∧ w6.cell? ⟨g14, 1, none⟩ = some (.string L) ∧ w6.cell? ⟨g14, 2, none⟩ = some (.int .i64 (pt : Int)) := ⟨(unhide HK6).cell 0, (unhide HK6).cell 1, (unhide HK6).cell 2⟩
              rw [← unhide HLB2] at x1
              have hk3 : 2 ≤ kd := by rw [unhide HK2]; exact Nat.le_refl _
              have e2 : (2 : Int) ≤ (kd : Int) := by omega
              have HK3 := hide hk3
              clear hk3
              cases hbe : List.isEmpty lb with
              | true =>
                have HBE := hide (List.isEmpty_iff.1 hbe)
                have HEQ := hide (show (⟨(renLine a b x).toArray⟩ : ByteArray) = X from by rw [unhide HNOT (fun h => h.2.1 (unhide HBE)), ← unhide HXE])
                have HSZ := hide (show X.size ≤ 600 from unhide HXS)
                by_cases ek : 0 < k
                · have ek1 : (0 : Int) < (k : Int) := by omega
                  have HREN := hide (show Value.string (RB ++ ⟨#[10]⟩ ++ X) = .string ⟨(joinL ((LS.take (k + 1)).map (renLine a b))).toArray⟩ from by rw [unhide HJ1 ek, unhide HEQ])
                  have r1 := fun wx : World => run_string_add_sum (P := Tryd.prog) wx RB ⟨#[10]⟩ (by show RB.size + 1 ≤ _; omega)
                  have r2 := fun wx : World => run_string_add_sum (P := Tryd.prog) wx (RB ++ ⟨#[10]⟩) (X) (by rw [ByteArray.size_append]; show RB.size + 1 + _ ≤ _; have := unhide HSZ; omega)
                  clear ek
                  go_wp2_with fail
                  go_roundw
                  case rel =>
                    refine ⟨k + 1, by go_num, by omega, ?_, ?_, ?_, unhide HC6⟩
                    · rw [unhide HLN2, List.length_append, List.map_append]; exact unhide HO6
                    · rw [unhide HLN2, List.length_append, List.map_append]; exact unhide HP6
                    · exact unhide HREN
                  case measure => simp [intOf]; omega
                · have ek1 : ¬ (0 : Int) < (k : Int) := by omega
                  have HREN := hide (show Value.string (RB ++ X) = .string ⟨(joinL ((LS.take (k + 1)).map (renLine a b))).toArray⟩ from by rw [unhide HJ0 (by omega), unhide HEQ])
                  have r2 := fun wx : World => run_string_add_sum (P := Tryd.prog) wx RB (X) (by have := unhide HSZ; omega)
                  clear ek
                  go_wp2_with fail
                  go_roundw
                  case rel =>
                    refine ⟨k + 1, by go_num, by omega, ?_, ?_, ?_, unhide HC6⟩
                    · rw [unhide HLN2, List.length_append, List.map_append]; exact unhide HO6
                    · rw [unhide HLN2, List.length_append, List.map_append]; exact unhide HP6
                    · exact unhide HREN
                  case measure => simp [intOf]; omega
              | false =>
                have HBE := hide (show lb ≠ [] from fun h => by rw [h] at hbe; cases hbe)
                cases hla : (lb == a) with
                | false =>
                  have HLA := hide (show ¬ lb = a from fun h => by rw [h] at hla; simp at hla)
                  have HEQ := hide (show (⟨(renLine a b x).toArray⟩ : ByteArray) = X from by rw [unhide HNOT (fun h => (unhide HLA) h.2.2), ← unhide HXE])
                  have HSZ := hide (show X.size ≤ 600 from unhide HXS)
                  by_cases ek : 0 < k
                  · have ek1 : (0 : Int) < (k : Int) := by omega
                    have HREN := hide (show Value.string (RB ++ ⟨#[10]⟩ ++ X) = .string ⟨(joinL ((LS.take (k + 1)).map (renLine a b))).toArray⟩ from by rw [unhide HJ1 ek, unhide HEQ])
                    have r1 := fun wx : World => run_string_add_sum (P := Tryd.prog) wx RB ⟨#[10]⟩ (by show RB.size + 1 ≤ _; omega)
                    have r2 := fun wx : World => run_string_add_sum (P := Tryd.prog) wx (RB ++ ⟨#[10]⟩) (X) (by rw [ByteArray.size_append]; show RB.size + 1 + _ ≤ _; have := unhide HSZ; omega)
                    clear ek
                    go_wp2_with fail
                    go_roundw
                    case rel =>
                      refine ⟨k + 1, by go_num, by omega, ?_, ?_, ?_, unhide HC6⟩
                      · rw [unhide HLN2, List.length_append, List.map_append]; exact unhide HO6
                      · rw [unhide HLN2, List.length_append, List.map_append]; exact unhide HP6
                      · exact unhide HREN
                    case measure => simp [intOf]; omega
                  · have ek1 : ¬ (0 : Int) < (k : Int) := by omega
                    have HREN := hide (show Value.string (RB ++ X) = .string ⟨(joinL ((LS.take (k + 1)).map (renLine a b))).toArray⟩ from by rw [unhide HJ0 (by omega), unhide HEQ])
                    have r2 := fun wx : World => run_string_add_sum (P := Tryd.prog) wx RB (X) (by have := unhide HSZ; omega)
                    clear ek
                    go_wp2_with fail
                    go_roundw
                    case rel =>
                      refine ⟨k + 1, by go_num, by omega, ?_, ?_, ?_, unhide HC6⟩
                      · rw [unhide HLN2, List.length_append, List.map_append]; exact unhide HO6
                      · rw [unhide HLN2, List.length_append, List.map_append]; exact unhide HP6
                      · exact unhide HREN
                    case measure => simp [intOf]; omega
                | true =>
                  have HLA := hide (show lb = a from by simpa using hla)
                  go_upto_region 14 with fail
                  have q3 : pt + (⟨a.toArray⟩ : ByteArray).size ≤ X.size := by
                    have h := (unhide HSP) (unhide HK3) (unhide HBE)
                    rw [bs_size, ← unhide HLA, unhide HXL]; exact h
                  have q7 : X.size ≤ 600 := unhide HXS
                  have q8 : (⟨b.toArray⟩ : ByteArray).size ≤ 1000000000 := by rw [bs_size]; omega
                  have HEQ := hide (show (⟨(renLine a b x).toArray⟩ : ByteArray) = X.extract 0 pt ++ ⟨b.toArray⟩ ++ X.extract (pt + (⟨a.toArray⟩ : ByteArray).size) X.size from by rw [unhide HYES (unhide HK3) (unhide HBE) (unhide HLA), unhide HLA, ← unhide HXE, put_eq, bs_size])
                  have HSQ := hide (show (⟨(renLine a b x).toArray⟩ : ByteArray).size ≤ 640 from by have h := renLine_len a b x; have h5 := unhide HXL; rw [bs_size]; omega)
                  refine r7_14 _ _ _ _ _ _ _ _ _ _ _ _ _ _ _ _ _ _ _ _ _ _ _ _ _ _ _ _ _ _ _ _ _ _ _ _ _ _ _ _ _ _ _ _ _ _ _ _ _ _ _ _ _ _ _ _ _ _ _ _ _ _ _ _ _ _ _ _ _ _ _ _ _ _ _ _ _ _ _ _ _ _ _ _ _ _ _ _ _ _ _ _ _ _ _ _ _ _ _ _ _ _ _ _ _ _ _ _ _ _ _ _ _ _ _ _ _ _ _ w6 g14 pt X ⟨a.toArray⟩ ⟨b.toArray⟩ q3 (by omega) (by omega) (by omega) x2 (by omega) q8 _ ?_
                  intro y84 y85 y86 y87 y88 y89 y90 y91 y92 y93 y94 y95 y96 y97
                  have hoD := (unhide HO6).drew
                  have hpD := (unhide HP6).drew
                  have hcD := (unhide HC6).drew
                  generalize w6.drew = w7 at hoD hpD hcD ⊢
                  generalize X.extract 0 pt ++ ⟨b.toArray⟩ ++ X.extract (pt + (⟨a.toArray⟩ : ByteArray).size) X.size = LN at *
                  have HSZ := hide (show LN.size ≤ 640 from by rw [← unhide HEQ]; exact unhide HSQ)
                  have HO7 := hide hoD
                  have HP7 := hide hpD
                  have HC7 := hide hcD
                  clear hoD hpD hcD x0 x1 x2 q3 q7 q8 HSQ
                  by_cases ek : 0 < k
                  · have ek1 : (0 : Int) < (k : Int) := by omega
                    have HREN := hide (show Value.string (RB ++ ⟨#[10]⟩ ++ LN) = .string ⟨(joinL ((LS.take (k + 1)).map (renLine a b))).toArray⟩ from by rw [unhide HJ1 ek, unhide HEQ])
                    have r1 := fun wx : World => run_string_add_sum (P := Tryd.prog) wx RB ⟨#[10]⟩ (by show RB.size + 1 ≤ _; omega)
                    have r2 := fun wx : World => run_string_add_sum (P := Tryd.prog) wx (RB ++ ⟨#[10]⟩) (LN) (by rw [ByteArray.size_append]; show RB.size + 1 + _ ≤ _; have := unhide HSZ; omega)
                    clear ek
                    go_wp2_with fail
                    go_roundw
                    case rel =>
                      refine ⟨k + 1, by go_num, by omega, ?_, ?_, ?_, unhide HC7⟩
                      · rw [unhide HLN2, List.length_append, List.map_append]; exact unhide HO7
                      · rw [unhide HLN2, List.length_append, List.map_append]; exact unhide HP7
                      · exact unhide HREN
                    case measure => simp [intOf]; omega
                  · have ek1 : ¬ (0 : Int) < (k : Int) := by omega
                    have HREN := hide (show Value.string (RB ++ LN) = .string ⟨(joinL ((LS.take (k + 1)).map (renLine a b))).toArray⟩ from by rw [unhide HJ0 (by omega), unhide HEQ])
                    have r2 := fun wx : World => run_string_add_sum (P := Tryd.prog) wx RB (LN) (by have := unhide HSZ; omega)
                    clear ek
                    go_wp2_with fail
                    go_roundw
                    case rel =>
                      refine ⟨k + 1, by go_num, by omega, ?_, ?_, ?_, unhide HC7⟩
                      · rw [unhide HLN2, List.length_append, List.map_append]; exact unhide HO7
                      · rw [unhide HLN2, List.length_append, List.map_append]; exact unhide HP7
                      · exact unhide HREN
                    case measure => simp [intOf]; omega
            · have hkd : ((kd : Int) == 2) = false := beq_eq_false_iff_ne.2 (by omega)
              have HLN2 := hide (show labs LS (k + 1) = V by rw [unhide HLN, if_neg hk2, List.append_nil])
              clear HLN hk2
              obtain ⟨x0, x1⟩ : w4.cell? ⟨g14, 0, none⟩ = some (.int .i64 (kd : Int)) ∧ w4.cell? ⟨g14, 1, none⟩ = some (.string L) := ⟨(unhide HBX).cell 0, (unhide HBX).cell 1⟩
              go_upto_region 13 with fail
              clear x0 x1 hkd
              obtain ⟨x0, x1, x2⟩ : w4.cell? ⟨g14, 0, none⟩ = some (.int .i64 (kd : Int)) ∧ w4.cell? ⟨g14, 1, none⟩ = some (.string L) ∧ w4.cell? ⟨g14, 2, none⟩ = some (.int .i64 (pt : Int)) := ⟨(unhide HBX).cell 0, (unhide HBX).cell 1, (unhide HBX).cell 2⟩
              rw [← unhide HLB2] at x1
              by_cases hk3 : 2 ≤ kd
              · have e2 : (2 : Int) ≤ (kd : Int) := by omega
                have HK3 := hide hk3
                clear hk3
                cases hbe : List.isEmpty lb with
                | true =>
                  have HBE := hide (List.isEmpty_iff.1 hbe)
                  have HEQ := hide (show (⟨(renLine a b x).toArray⟩ : ByteArray) = X from by rw [unhide HNOT (fun h => h.2.1 (unhide HBE)), ← unhide HXE])
                  have HSZ := hide (show X.size ≤ 600 from unhide HXS)
                  by_cases ek : 0 < k
                  · have ek1 : (0 : Int) < (k : Int) := by omega
                    have HREN := hide (show Value.string (RB ++ ⟨#[10]⟩ ++ X) = .string ⟨(joinL ((LS.take (k + 1)).map (renLine a b))).toArray⟩ from by rw [unhide HJ1 ek, unhide HEQ])
                    have r1 := fun wx : World => run_string_add_sum (P := Tryd.prog) wx RB ⟨#[10]⟩ (by show RB.size + 1 ≤ _; omega)
                    have r2 := fun wx : World => run_string_add_sum (P := Tryd.prog) wx (RB ++ ⟨#[10]⟩) (X) (by rw [ByteArray.size_append]; show RB.size + 1 + _ ≤ _; have := unhide HSZ; omega)
                    clear ek
                    go_wp2_with fail
                    go_roundw
                    case rel =>
                      refine ⟨k + 1, by go_num, by omega, ?_, ?_, ?_, unhide HC4⟩
                      · rw [unhide HLN2]; exact unhide HO4
                      · rw [unhide HLN2]; exact unhide HP4
                      · exact unhide HREN
                    case measure => simp [intOf]; omega
                  · have ek1 : ¬ (0 : Int) < (k : Int) := by omega
                    have HREN := hide (show Value.string (RB ++ X) = .string ⟨(joinL ((LS.take (k + 1)).map (renLine a b))).toArray⟩ from by rw [unhide HJ0 (by omega), unhide HEQ])
                    have r2 := fun wx : World => run_string_add_sum (P := Tryd.prog) wx RB (X) (by have := unhide HSZ; omega)
                    clear ek
                    go_wp2_with fail
                    go_roundw
                    case rel =>
                      refine ⟨k + 1, by go_num, by omega, ?_, ?_, ?_, unhide HC4⟩
                      · rw [unhide HLN2]; exact unhide HO4
                      · rw [unhide HLN2]; exact unhide HP4
                      · exact unhide HREN
                    case measure => simp [intOf]; omega
                | false =>
                  have HBE := hide (show lb ≠ [] from fun h => by rw [h] at hbe; cases hbe)
                  cases hla : (lb == a) with
                  | false =>
                    have HLA := hide (show ¬ lb = a from fun h => by rw [h] at hla; simp at hla)
                    have HEQ := hide (show (⟨(renLine a b x).toArray⟩ : ByteArray) = X from by rw [unhide HNOT (fun h => (unhide HLA) h.2.2), ← unhide HXE])
                    have HSZ := hide (show X.size ≤ 600 from unhide HXS)
                    by_cases ek : 0 < k
                    · have ek1 : (0 : Int) < (k : Int) := by omega
                      have HREN := hide (show Value.string (RB ++ ⟨#[10]⟩ ++ X) = .string ⟨(joinL ((LS.take (k + 1)).map (renLine a b))).toArray⟩ from by rw [unhide HJ1 ek, unhide HEQ])
                      have r1 := fun wx : World => run_string_add_sum (P := Tryd.prog) wx RB ⟨#[10]⟩ (by show RB.size + 1 ≤ _; omega)
                      have r2 := fun wx : World => run_string_add_sum (P := Tryd.prog) wx (RB ++ ⟨#[10]⟩) (X) (by rw [ByteArray.size_append]; show RB.size + 1 + _ ≤ _; have := unhide HSZ; omega)
                      clear ek
                      go_wp2_with fail
                      go_roundw
                      case rel =>
                        refine ⟨k + 1, by go_num, by omega, ?_, ?_, ?_, unhide HC4⟩
                        · rw [unhide HLN2]; exact unhide HO4
                        · rw [unhide HLN2]; exact unhide HP4
                        · exact unhide HREN
                      case measure => simp [intOf]; omega
                    · have ek1 : ¬ (0 : Int) < (k : Int) := by omega
                      have HREN := hide (show Value.string (RB ++ X) = .string ⟨(joinL ((LS.take (k + 1)).map (renLine a b))).toArray⟩ from by rw [unhide HJ0 (by omega), unhide HEQ])
                      have r2 := fun wx : World => run_string_add_sum (P := Tryd.prog) wx RB (X) (by have := unhide HSZ; omega)
                      clear ek
                      go_wp2_with fail
                      go_roundw
                      case rel =>
                        refine ⟨k + 1, by go_num, by omega, ?_, ?_, ?_, unhide HC4⟩
                        · rw [unhide HLN2]; exact unhide HO4
                        · rw [unhide HLN2]; exact unhide HP4
                        · exact unhide HREN
                      case measure => simp [intOf]; omega
                  | true =>
                    have HLA := hide (show lb = a from by simpa using hla)
                    go_upto_region 14 with fail
                    have q3 : pt + (⟨a.toArray⟩ : ByteArray).size ≤ X.size := by
                      have h := (unhide HSP) (unhide HK3) (unhide HBE)
                      rw [bs_size, ← unhide HLA, unhide HXL]; exact h
                    have q7 : X.size ≤ 600 := unhide HXS
                    have q8 : (⟨b.toArray⟩ : ByteArray).size ≤ 1000000000 := by rw [bs_size]; omega
                    have HEQ := hide (show (⟨(renLine a b x).toArray⟩ : ByteArray) = X.extract 0 pt ++ ⟨b.toArray⟩ ++ X.extract (pt + (⟨a.toArray⟩ : ByteArray).size) X.size from by rw [unhide HYES (unhide HK3) (unhide HBE) (unhide HLA), unhide HLA, ← unhide HXE, put_eq, bs_size])
                    have HSQ := hide (show (⟨(renLine a b x).toArray⟩ : ByteArray).size ≤ 640 from by have h := renLine_len a b x; have h5 := unhide HXL; rw [bs_size]; omega)
                    refine r7_14 _ _ _ _ _ _ _ _ _ _ _ _ _ _ _ _ _ _ _ _ _ _ _ _ _ _ _ _ _ _ _ _ _ _ _ _ _ _ _ _ _ _ _ _ _ _ _ _ _ _ _ _ _ _ _ _ _ _ _ _ _ _ _ _ _ _ _ _ _ _ _ _ _ _ _ _ _ _ _ _ _ _ _ _ _ _ _ _ _ _ _ _ _ _ _ _ _ _ _ _ _ _ _ _ _ _ _ _ _ _ _ _ _ _ _ _ _ _ _ w4 g14 pt X ⟨a.toArray⟩ ⟨b.toArray⟩ q3 (by omega) (by omega) (by omega) x2 (by omega) q8 _ ?_
                    intro y84 y85 y86 y87 y88 y89 y90 y91 y92 y93 y94 y95 y96 y97
                    have hoD := (unhide HO4).drew
                    have hpD := (unhide HP4).drew
                    have hcD := (unhide HC4).drew
                    generalize w4.drew = w7 at hoD hpD hcD ⊢
                    generalize X.extract 0 pt ++ ⟨b.toArray⟩ ++ X.extract (pt + (⟨a.toArray⟩ : ByteArray).size) X.size = LN at *
                    have HSZ := hide (show LN.size ≤ 640 from by rw [← unhide HEQ]; exact unhide HSQ)
                    have HO7 := hide hoD
                    have HP7 := hide hpD
                    have HC7 := hide hcD
                    clear hoD hpD hcD x0 x1 x2 q3 q7 q8 HSQ
                    by_cases ek : 0 < k
                    · have ek1 : (0 : Int) < (k : Int) := by omega
                      have HREN := hide (show Value.string (RB ++ ⟨#[10]⟩ ++ LN) = .string ⟨(joinL ((LS.take (k + 1)).map (renLine a b))).toArray⟩ from by rw [unhide HJ1 ek, unhide HEQ])
                      have r1 := fun wx : World => run_string_add_sum (P := Tryd.prog) wx RB ⟨#[10]⟩ (by show RB.size + 1 ≤ _; omega)
                      have r2 := fun wx : World => run_string_add_sum (P := Tryd.prog) wx (RB ++ ⟨#[10]⟩) (LN) (by rw [ByteArray.size_append]; show RB.size + 1 + _ ≤ _; have := unhide HSZ; omega)
                      clear ek
                      go_wp2_with fail
                      go_roundw
                      case rel =>
                        refine ⟨k + 1, by go_num, by omega, ?_, ?_, ?_, unhide HC7⟩
                        · rw [unhide HLN2]; exact unhide HO7
                        · rw [unhide HLN2]; exact unhide HP7
                        · exact unhide HREN
                      case measure => simp [intOf]; omega
                    · have ek1 : ¬ (0 : Int) < (k : Int) := by omega
                      have HREN := hide (show Value.string (RB ++ LN) = .string ⟨(joinL ((LS.take (k + 1)).map (renLine a b))).toArray⟩ from by rw [unhide HJ0 (by omega), unhide HEQ])
                      have r2 := fun wx : World => run_string_add_sum (P := Tryd.prog) wx RB (LN) (by have := unhide HSZ; omega)
                      clear ek
                      go_wp2_with fail
                      go_roundw
                      case rel =>
                        refine ⟨k + 1, by go_num, by omega, ?_, ?_, ?_, unhide HC7⟩
                        · rw [unhide HLN2]; exact unhide HO7
                        · rw [unhide HLN2]; exact unhide HP7
                        · exact unhide HREN
                      case measure => simp [intOf]; omega
              · have e2 : ¬ (2 : Int) ≤ (kd : Int) := by omega
                have HK3 := hide hk3
                clear hk3
                have HEQ := hide (show (⟨(renLine a b x).toArray⟩ : ByteArray) = X from by rw [unhide HNOT (fun h => (unhide HK3) h.1), ← unhide HXE])
                have HSZ := hide (show X.size ≤ 600 from unhide HXS)
                by_cases ek : 0 < k
                · have ek1 : (0 : Int) < (k : Int) := by omega
                  have HREN := hide (show Value.string (RB ++ ⟨#[10]⟩ ++ X) = .string ⟨(joinL ((LS.take (k + 1)).map (renLine a b))).toArray⟩ from by rw [unhide HJ1 ek, unhide HEQ])
                  have r1 := fun wx : World => run_string_add_sum (P := Tryd.prog) wx RB ⟨#[10]⟩ (by show RB.size + 1 ≤ _; omega)
                  have r2 := fun wx : World => run_string_add_sum (P := Tryd.prog) wx (RB ++ ⟨#[10]⟩) (X) (by rw [ByteArray.size_append]; show RB.size + 1 + _ ≤ _; have := unhide HSZ; omega)
                  clear ek
                  go_wp2_with fail
                  go_roundw
                  case rel =>
                    refine ⟨k + 1, by go_num, by omega, ?_, ?_, ?_, unhide HC4⟩
                    · rw [unhide HLN2]; exact unhide HO4
                    · rw [unhide HLN2]; exact unhide HP4
                    · exact unhide HREN
                  case measure => simp [intOf]; omega
                · have ek1 : ¬ (0 : Int) < (k : Int) := by omega
                  have HREN := hide (show Value.string (RB ++ X) = .string ⟨(joinL ((LS.take (k + 1)).map (renLine a b))).toArray⟩ from by rw [unhide HJ0 (by omega), unhide HEQ])
                  have r2 := fun wx : World => run_string_add_sum (P := Tryd.prog) wx RB (X) (by have := unhide HSZ; omega)
                  clear ek
                  go_wp2_with fail
                  go_roundw
                  case rel =>
                    refine ⟨k + 1, by go_num, by omega, ?_, ?_, ?_, unhide HC4⟩
                    · rw [unhide HLN2]; exact unhide HO4
                    · rw [unhide HLN2]; exact unhide HP4
                    · exact unhide HREN
                  case measure => simp [intOf]; omega
          · obtain rfl : k = LS.length := by omega
            have hki : ¬ (LS.length : Int) < (LS.length : Int) := by omega
            have hll2 := labs_len LS LS.length
            rw [List.take_length, ← unhide HRT]
            have hsa := refSameS_any ((labs LS LS.length).map Prod.fst) ((labs LS LS.length).map Prod.fst) A2 B c2 c5 (fun j => j < wa.heap.size) (fun j => j < wq.heap.size) wq
            rw [List.map_map, List.length_map, beq_self_eq_true] at hsa
            have HSA := hide (hsa ((unhide HR23).chg hch (fun _ _ _ => id)) (own_rd hown (by decide)).low (by omega) (by omega))
            have hsb := fun W => refRow_any ((labs LS LS.length).map fun p => (p.2 : Int)) ((labs LS LS.length).map fun p => (p.2 : Int)) B2 D d2 c6 (fun j => j < wa.heap.size) (fun j => j < wq.heap.size) W
            rw [List.map_map, List.length_map, beq_self_eq_true] at hsb
            have HSB := hide (fun W (hW : Chg (fun _ => False) wq W) => hsb W (((unhide HS23).chg hch (fun _ _ _ => id)).chg hW (fun _ _ _ => id)) ((own_rd hown2 (by decide)).low.chg hW (fun _ _ _ => id)) (by omega) (by omega))
            have HCQ := hide ((unhide HCA).trans' hch)
            clear hsa hsb hown hown2 hch HOW HPW HCH
            generalize (labs LS LS.length).length = nl at *
            have hmm := @run_makeMap Tryd.prog
            go_wp2_with (first
              | (go_at_call 20; (with_reducible refine (unhide HSA).mono ?_); rintro e w4 ⟨rfl, hc4⟩; have HC4 := hide hc4; clear hc4)
              | (go_at_call 21; (with_reducible refine (unhide HSB _ (unhide HC4)).mono ?_); rintro e w5 ⟨rfl, hc5⟩; have HC5 := hide ((unhide HC4).trans' hc5); clear hc5; (obtain ⟨w7, hins, hm7, hc7⟩ := unhide HMO w5); have HM7 := hide hm7; have HC7 := hide ((unhide HCQ).trans' ((unhide HC5).trans' hc7)); clear hm7 hc7)
              | (go_at_call 22; (with_reducible refine (unhide HRN _ (unhide HC7) _ _ (unhide HM7)).mono ?_); rintro e w8 ⟨rfl, hc8⟩; have HC8 := hide ((unhide HC7).trans' hc8); clear hc8))
            go_ret
            exact ⟨rfl, unhide HC8⟩
      · have hl3 : (40 : Int) < (b.length : Int) := by omega
        clear hl
        go_enter Tryd.func7, Tryd.ntmps7
        go_wp2_with (go_at_call 9; first
          | ((with_reducible refine (unhide HAW _ (unhide HC1)).mono ?_); rintro e w2 ⟨rfl, hc2⟩; have HC2 := hide ((unhide HC1).trans' hc2); clear hc2)
          | ((with_reducible refine (unhide HAW _ (Chg.refl _ _)).mono ?_); rintro e w1 ⟨rfl, hc1⟩; have HC1 := hide hc1; clear hc1))
        go_ret
        exact ⟨rfl, unhide HC2⟩
    · have hl2 : (40 : Int) < (a.length : Int) := by omega
      clear hl
      go_enter Tryd.func7, Tryd.ntmps7
      go_wp2_with (go_at_call 9; first
        | ((with_reducible refine (unhide HAW _ (unhide HC1)).mono ?_); rintro e w2 ⟨rfl, hc2⟩; have HC2 := hide ((unhide HC1).trans' hc2); clear hc2)
        | ((with_reducible refine (unhide HAW _ (Chg.refl _ _)).mono ?_); rintro e w1 ⟨rfl, hc1⟩; have HC1 := hide hc1; clear hc1))
      go_ret
      exact ⟨rfl, unhide HC2⟩
  · have hl1 : (600 : Int) < (s.length : Int) := by omega
    clear hl
    go_enter Tryd.func7, Tryd.ntmps7
    go_wp2_with (go_at_call 9; first
      | ((with_reducible refine (unhide HAW _ (unhide HC1)).mono ?_); rintro e w2 ⟨rfl, hc2⟩; have HC2 := hide ((unhide HC1).trans' hc2); clear hc2)
      | ((with_reducible refine (unhide HAW _ (Chg.refl _ _)).mono ?_); rintro e w1 ⟨rfl, hc1⟩; have HC1 := hide hc1; clear hc1))
    go_ret
    exact ⟨rfl, unhide HC2⟩
end Go.Proofs.YtgonllogaiiicaaDoor
