/-
  Layer 17, the document: ref17.Read.
-/
import Derived.Test.YtgonllogaiiicaaDoorWn
import Derived.Test.YtgonllogaiiicaaDoorRre
import Derived.Test.YtgonllogaiiicaaDoorRln
import Derived.Test.YtgonllogaiiicaaDoorWt
namespace Go.Proofs.YtgonllogaiiicaaDoor
open Go.RowKit
set_option maxHeartbeats 4000000
set_option maxRecDepth 100000
/-- A line in memory. -/
def lnc (x : Ln) : List Value := [.int .i64 (x.kind : Int), .string ⟨x.label.toArray⟩, .int .i64 (x.at_ : Int), .int .i64 x.i.op, .int .i64 x.i.a, .int .i64 x.i.b]
theorem infoLine : (Tryd.prog.info? 44).map (fun i => (i.zero, i.size, i.bytes)) = some (some (.agg #[.int .i64 0, .string ⟨#[]⟩, .int .i64 0, .int .i64 0, .int .i64 0, .int .i64 0]), 6, 56) := by kernel_rfl
theorem lnc_one (x : Ln) : ∀ u ∈ lnc x, u.oneCell' = true := by
  intro u hu
  simp [lnc] at hu
  rcases hu with rfl | rfl | rfl | rfl | rfl | rfl <;> rfl
theorem lines_at {T : Nat → Prop} {w : World} {A : Option Addr} {l : List Ln} (h : Rd T w A (l.flatMap lnc)) (hn : l ≠ []) : ∃ b o, A = some ⟨b, o, none⟩ ∧ T b ∧ ∀ k x, l[k]? = some x →
    w.cell? ⟨b, o + k * 6, none⟩ = some (.int .i64 (x.kind : Int)) ∧ w.cell? ⟨b, o + k * 6 + 1, none⟩ = some (.string ⟨x.label.toArray⟩) ∧ w.cell? ⟨b, o + k * 6 + 2, none⟩ = some (.int .i64 (x.at_ : Int)) ∧ w.cell? ⟨b, o + k * 6 + 3, none⟩ = some (.int .i64 x.i.op) ∧ w.cell? ⟨b, o + k * 6 + 4, none⟩ = some (.int .i64 x.i.a) ∧ w.cell? ⟨b, o + k * 6 + 5, none⟩ = some (.int .i64 x.i.b) := by
  obtain ⟨b, o, hA, hT, hc⟩ := h.flat (by
    intro e
    rcases l with _ | ⟨x, l⟩
    · exact hn rfl
    · simp [lnc] at e)
  refine ⟨b, o, hA, hT, fun k i hi => ?_⟩
  have hg := fun j (hj : j < 6) => flat_get lnc 6 (fun _ => rfl) l k j i hi hj
  exact ⟨hc _ _ (hg 0 (by omega)), by rw [Nat.add_assoc]; exact hc _ _ (hg 1 (by omega)), by rw [Nat.add_assoc]; exact hc _ _ (hg 2 (by omega)), by rw [Nat.add_assoc]; exact hc _ _ (hg 3 (by omega)), by rw [Nat.add_assoc]; exact hc _ _ (hg 4 (by omega)), by rw [Nat.add_assoc]; exact hc _ _ (hg 5 (by omega))⟩
/-- Does a line from k on do something? -/
def behA (ls : List Ln) (k j : Nat) : Bool := ((ls.take j).drop k).any fun y => decide (y.kind = 3)
theorem behA_start (ls : List Ln) (k : Nat) : behA ls k k = false := by
  unfold behA
  rw [List.drop_eq_nil_of_le (by rw [List.length_take]; omega)]; rfl
theorem behA_next {ls : List Ln} {k j : Nat} {y : Ln} (h : ls[j]? = some y) (hk : k ≤ j) : behA ls k (j + 1) = (behA ls k j || decide (y.kind = 3)) := by
  unfold behA
  obtain ⟨hj, _⟩ := List.getElem?_eq_some_iff.1 h
  rw [(ln_split h).2.2.1, List.drop_append, List.any_append]
  have : k - (ls.take j).length = 0 := by rw [List.length_take]; omega
  rw [this]
  simp
def saidA (ls : List Ln) (s : Bs) (j : Nat) : Bool := (ls.take j).any fun y => decide (y.kind = 2) && decide (y.label = s)
theorem saidA_next {ls : List Ln} {s : Bs} {j : Nat} {y : Ln} (h : ls[j]? = some y) : saidA ls s (j + 1) = (saidA ls s j || (decide (y.kind = 2) && decide (y.label = s))) := by
  unfold saidA
  rw [(ln_split h).2.2.1, List.any_append]
  simp
theorem step_two {ls : List Ln} {k : Nat} {x : Ln} (h : ls[k]? = some x) (hx : x.kind = 2) : stepOf ls (ls.take k) x = if (behA ls k ls.length && !saidA ls x.label k) = true then .skip else .bad := by
  obtain ⟨h1, h2, h3, h4⟩ := ln_split h
  have e : behA ls k ls.length = (ls.drop (k + 1)).any fun y => decide (y.kind = 3) := by
    unfold behA
    rw [List.take_length, h2, List.any_cons, hx]
    rfl
  have hb := lastOf_behind (ls.take k) (ls.drop (k + 1)) x hx
  rw [← h1] at hb
  unfold stepOf
  rw [if_pos hx, e, hb]
  unfold saidA
  rw [seenN_any]
  by_cases c1 : ((ls.take k).length : Int) > lastOf ls
  · rw [if_pos (.inl c1), if_neg (by rw [decide_eq_true c1]; simp)]
  · by_cases c2 : 0 < seenN (ls.take k) x.label
    · rw [if_pos (.inr c2), if_neg (by rw [decide_eq_true c2]; simp)]
    · rw [if_neg (by rintro (h | h); exact c1 h; exact c2 h), if_pos (by rw [decide_eq_false c1, decide_eq_false c2]; rfl)]
theorem refRead_any (s : ByteArray) (w : World) (hs : s.size ≤ 100000000) (hln : (linesL s.data.toList).length ≤ 20000) : Calls Tryd.prog 15 #[.string s] w fun e w' => ReadOut w (readT s.data.toList) e w' := by
  obtain ⟨q_i, q_hi, q_hz, q_hs, q_hb⟩ := info_parts infoLine
  have HLI := hide (refLines_any s w hs)
  have HLE := hide (fun x (hx : x ∈ linesL s.data.toList) => show x.length ≤ 100000000 from by
    have h1 := line_len hx
    have h2 : s.data.toList.length = s.size := rfl
    omega)
  have HRT := hide (show readT s.data.toList = readAll ((linesL s.data.toList).map readL) from rfl)
  generalize readT s.data.toList = RT at *
  generalize linesL s.data.toList = LS at *
  obtain ⟨LN, hLN⟩ : ∃ LN, LS.map readL = LN := ⟨_, rfl⟩
  have HAT := hide (fun (k : Nat) (x : Bs) (hx : LS[k]? = some x) => show LN[k]? = some (readL x) from by rw [← hLN, List.getElem?_map, hx]; rfl)
  have HLL := hide (show LN.length = LS.length by rw [← hLN, List.length_map])
  have HKK := hide (show ∀ y ∈ LN, y.kind ≤ 3 from fun y hy => by rw [← hLN] at hy; obtain ⟨x, _, rfl⟩ := List.mem_map.1 hy; exact readL_kind x)
  rw [hLN] at HRT
  clear hLN hs
  go_enter Tryd.func15, Tryd.ntmps15
  go_wp2_with (go_at_call 18; (refine (unhide HLI).mono ?_); rintro e w2 ⟨A, c, rfl, hr, hc2⟩; have HR := hide hr.low; have HC2 := hide hc2; clear hr hc2)
  have HO0 := hide (own_start (base := w2.heap.size) (size := 6) (Blk.new w2 44 #[]) (Nat.le_refl _))
  have HC0 := hide ((Chg.refl (fun _ => False) w2).alloc (.cells #[] 44))
  go_loopw [6, 7] (fun all i wr => ∃ k : Nat, i = .int .i64 (k : Int) ∧ k ≤ LS.length ∧ wr.ownsRow w2.heap.size 44 6 all k ((LN.take k).flatMap lnc) ∧ (∀ y ∈ LN.take k, y.kind ≠ 0) ∧ Chg (fun _ => False) w2 wr) (fun _ i _ => LS.length - (intOf i).toNat)
  case atStart => exact ⟨0, rfl, Nat.zero_le _, unhide HO0, by simp, unhide HC0⟩
  case round =>
    clear HO0 HC0
    obtain ⟨wq, rfl⟩ : ∃ wq : World, wq = wr := ⟨_, rfl⟩
    obtain ⟨k, rfl, hk, hown, hgood, hch⟩ := hrel
    obtain ⟨B, c5, rfl⟩ := own_val hown
    have HOW := hide hown
    have HCH := hide hch
    have HGD := hide hgood
    by_cases hlt : k < LS.length
    · have hki : (k : Int) < (LS.length : Int) := by omega
      have hx := List.getElem?_eq_getElem hlt
      generalize LS[k] = x at *
      have hxl := (unhide HLE) x (List.mem_of_getElem? hx)
      have hln2 := (unhide HAT) k x hx
      obtain ⟨b1, o1, rfl, _, h1⟩ := map_at ((unhide HR).chg hch (fun _ _ _ => id)) (by rintro rfl; simp at hlt)
      have k1 := h1 k hlt
      rw [show LS[k] = x from (List.getElem?_eq_some_iff.1 hx).2] at k1
      simp only [bv] at k1
      have HRE := hide (refRead1_any ⟨x.toArray⟩ wq (by show x.toArray.size ≤ _; rw [List.size_toArray]; exact hxl))
      rw [show (ByteArray.data ⟨x.toArray⟩).toList = x by simp] at HRE
      have HTK := hide (ln_split hln2).2.2.1
      have HKD := hide (show (∀ (y : Ln), y = readL x → y.kind ≤ 3) from fun y hy => by rw [hy]; exact readL_kind x)
      generalize readL x = X at *
      have HLN2 := hide hln2
      have hm1 : k + 1 ≤ maxLen := by simp only [maxLen]; omega
      have hm2 : (k + 1) * 56 ≤ 140737488355328 := by omega
      have HRN := hide (fun W : World => (rd_new W W.heap.size 44 (lnc X) rfl).mono (T' := fun _ => True) (fun _ _ => trivial))
      have HON := hide (lnc_one X)
      unfold lnV at HRE
      clear hown hgood hch hx hxl hln2 h1
      go_upto_region 6 with (go_at_call 19; (with_reducible refine (unhide HRE).mono ?_); rintro e w3 ⟨rfl, hc3⟩; have HC3 := hide hc3; clear hc3)
      obtain ⟨w4, hw4⟩ : ∃ w4, w3.alloc (.cells (lnc X).toArray 44) = w4 := ⟨_, rfl⟩
      obtain ⟨g8, hg8⟩ : ∃ g8, w3.heap.size = g8 := ⟨_, rfl⟩
      have hc4 : Chg (fun _ => False) w3 (w3.alloc (.cells (lnc X).toArray 44)) := (Chg.refl _ w3).alloc _
      have bk := Blk.new w3 44 (lnc X).toArray
      unfold lnc at hw4
      rw [hw4]
      unfold lnc at hc4 bk
      rw [hw4] at hc4 bk
      rw [hg8] at bk ⊢
      obtain ⟨x0, x1, x2, x3, x4, x5⟩ : w4.cell? ⟨g8, 0, none⟩ = some (.int .i64 (X.kind : Int)) ∧ w4.cell? ⟨g8, 1, none⟩ = some (.string ⟨X.label.toArray⟩) ∧ w4.cell? ⟨g8, 2, none⟩ = some (.int .i64 (X.at_ : Int)) ∧ w4.cell? ⟨g8, 3, none⟩ = some (.int .i64 X.i.op) ∧ w4.cell? ⟨g8, 4, none⟩ = some (.int .i64 X.i.a) ∧ w4.cell? ⟨g8, 5, none⟩ = some (.int .i64 X.i.b) := ⟨bk.cell 0, bk.cell 1, bk.cell 2, bk.cell 3, bk.cell 4, bk.cell 5⟩
      have HC34 := hide ((unhide HC3).trans' hc4)
      have HC4 := hide ((unhide HCH).trans' (unhide HC34))
      have HO4 := hide (own_chg (unhide HOW) (unhide HC34) (fun _ _ => id))
      have hb4 : w2.heap.size ≤ (w4.alloc (.cells (lnc X).toArray 44)).heap.size := ((unhide HC4).alloc (.cells (lnc X).toArray 44)).size
      clear hc4 hw4 hg8 bk HC3 HRE k1 HCH HOW
      by_cases hk0 : X.kind = 0
      · have hkz : ((X.kind : Int) == 0) = true := beq_iff_eq.2 (by omega)
        have HR0 := hide (readAll_line (unhide HLN2) hk0 (unhide HGD))
        have HRT2 := hide (show RT = .line k by rw [unhide HRT]; exact unhide HR0)
        have HCF := hide ((unhide HC2).trans' (unhide HC4))
        clear HR0 hk0
        go_wp2_with fail
        go_ret3
        rw [unhide HRT2]
        exact ⟨rfl, unhide HCF⟩
      · have hkz : ((X.kind : Int) == 0) = false := beq_eq_false_iff_ne.2 (by omega)
        have HK0 := hide hk0
        clear hk0
        go_wp2_with (at_builtin; (refine wpList_append_rd _ rfl (.tmp 36) (.tmp 38) 76 rfl w2.heap.size 44 q_i (.agg #[.int .i64 0, .string ⟨#[]⟩, .int .i64 0, .int .i64 0, .int .i64 0, .int .i64 0]) 6 56 Tryd.underlying76 q_hi q_hz q_hs q_hb rfl (by decide) _ k _ rfl ((unhide HO4).alloc _) (fun _ => True) (some ⟨w4.heap.size, 0, none⟩) 1 1 (lnc X) rfl rfl ((unhide HRN) w4) (unhide HON) hm1 hm2 hb4 ?_); intro v5 w5 ho_ hc_ hat_; (have HO5 := hide ho_); (have HC5 := hide ((unhide HC4).trans (((Chg.refl (fun z_ => (Value.slice B k c5).ownBlock = some z_) w4).alloc (.cells (lnc X).toArray 44)).trans hc_ (fun _ _ h => h)) (fun i hi e => by have := ((unhide HO4).lt i e).1; omega))); clear ho_ hc_ hat_)
        go_roundw
        case rel =>
          refine ⟨k + 1, by go_num, by omega, ?_, ?_, unhide HC5⟩
          · rw [unhide HTK, List.flatMap_append, List.flatMap_singleton]
            exact unhide HO5
          · rw [unhide HTK]; exact good_more (unhide HGD) (unhide HK0)
        case measure => simp [intOf]; omega
    · obtain rfl : k = LS.length := by omega
      have htk : LN.take LS.length = LN := List.take_of_length_le (by have := unhide HLL; omega)
      rw [htk] at hown hgood
      have hrd := own_rd hown (by decide)
      have HRW := hide hrd.low
      have hgd0 : ∀ y ∈ LN, y.kind ≠ 0 := hgood
      have hon := readAll_on hgd0
      have HGD0 := hide hgd0
      have HGD3 := hide (fun y (hy : y ∈ LN) => show y.kind ≤ 3 from unhide HKK y hy)
      have HRT2 := hide (show RT = resOf (goOn LN [] LN) by rw [unhide HRT, hon]; rfl)
      have HCW := hide ((unhide HC2).trans' hch)
      have hll := unhide HLL
      rw [← hll]
      have hln2 : LN.length ≤ 20000 := by rw [hll]; exact hln
      obtain ⟨i_i, i_hi, i_hz, i_hs, i_hb⟩ := info_parts infoIns
      clear hown hgood hch htk hgd0 hon HRT HOW HCH HGD HC2 HR HLE HAT HLL hll hln hrd q_hi q_hz q_hs q_hb q_i
      go_wp2_with fail
      have HO0 := hide (own_start (base := wq.heap.size) (size := 3) (Blk.new wq 42 #[]) (Nat.le_refl _))
      have HC0 := hide ((Chg.refl (fun _ => False) wq).alloc (.cells #[] 42))
      have HRT3 := HRT2
      go_loopw [9, 10] (fun row i wr => ∃ k : Nat, i = .int .i64 (k : Int) ∧ k ≤ LN.length ∧ wr.ownsRow wq.heap.size 42 3 row (cameOf LN [] (LN.take k)).length ((cameOf LN [] (LN.take k)).flatMap insv) ∧ P2 LN k ∧ Chg (fun _ => False) wq wr) (fun _ i _ => LN.length - (intOf i).toNat)
      case atStart => exact ⟨0, rfl, Nat.zero_le _, unhide HO0, p2_start LN, unhide HC0⟩
      case round =>
        clear HO0 HC0
        obtain ⟨wz, rfl⟩ : ∃ wz : World, wz = wr := ⟨_, rfl⟩
        obtain ⟨k, rfl, hk, hown, hp2, hch⟩ := hrel
        obtain ⟨B9, c9, rfl⟩ := own_val hown
        have HOW := hide hown
        have HCH := hide hch
        have HP2 := hide hp2
        have hcl := cameOf_length LN (LN.take k) []
        rw [List.length_take] at hcl
        by_cases hlt : k < LN.length
        · have hki : (k : Int) < (LN.length : Int) := by omega
          have hx := List.getElem?_eq_getElem hlt
          have hkd0 := (unhide HGD0) LN[k] (List.getElem_mem hlt)
          have hkd3 := (unhide HGD3) LN[k] (List.getElem_mem hlt)
          generalize LN[k] = x at *
          obtain ⟨b6, o6, rfl, hT6, h6⟩ := lines_at (unhide HRW) (by rintro rfl; simp at hlt)
          have HL0 := hide (fun W (hW : Chg (fun _ => False) wq W) j y (hy : LN[j]? = some y) => by
            obtain ⟨y0, y1, y2, y3, y4, y5⟩ := h6 j y hy
            exact (⟨(hW.cell (p := ⟨b6, _, none⟩) hT6 id).trans y0, (hW.cell (p := ⟨b6, _, none⟩) hT6 id).trans y1, (hW.cell (p := ⟨b6, _, none⟩) hT6 id).trans y2, (hW.cell (p := ⟨b6, _, none⟩) hT6 id).trans y3, (hW.cell (p := ⟨b6, _, none⟩) hT6 id).trans y4, (hW.cell (p := ⟨b6, _, none⟩) hT6 id).trans y5⟩ :
              W.cell? ⟨b6, o6 + j * 6, none⟩ = some (.int .i64 (y.kind : Int)) ∧ W.cell? ⟨b6, o6 + j * 6 + 1, none⟩ = some (.string ⟨y.label.toArray⟩) ∧ W.cell? ⟨b6, o6 + j * 6 + 2, none⟩ = some (.int .i64 (y.at_ : Int)) ∧ W.cell? ⟨b6, o6 + j * 6 + 3, none⟩ = some (.int .i64 y.i.op) ∧ W.cell? ⟨b6, o6 + j * 6 + 4, none⟩ = some (.int .i64 y.i.a) ∧ W.cell? ⟨b6, o6 + j * 6 + 5, none⟩ = some (.int .i64 y.i.b)))
          clear h6
          (obtain ⟨k0, k1, k2, k3, k4, k5⟩ := (unhide HL0) wz hch k x hx)
          have HX := hide hx
          have HSP := hide (ln_split hx).2.2.1
          have HST := hide (fun (hs : stepOf LN (LN.take k) x = .skip) => p2_skip hx hp2 hs)
          have HBD := hide (fun (hs : stepOf LN (LN.take k) x = .bad) => show RT = .label k from by rw [unhide HRT3, p2_bad hx hp2 hs]; rfl)
          have HPU := hide (fun i (hs : stepOf LN (LN.take k) x = .put i) => p2_put hx hp2 hs)
          clear hown hch hp2 hx
          go_upto_region 14 with fail
          obtain ⟨w4, hw4⟩ : ∃ w4, wz.alloc (.cells (lnc x).toArray 44) = w4 := ⟨_, rfl⟩
          obtain ⟨g11, hg11⟩ : ∃ g11, wz.heap.size = g11 := ⟨_, rfl⟩
          have hc4 : Chg (fun _ => False) wz (wz.alloc (.cells (lnc x).toArray 44)) := (Chg.refl _ wz).alloc _
          have bk := Blk.new wz 44 (lnc x).toArray
          unfold lnc at hw4
          rw [hw4]
          unfold lnc at hc4 bk
          rw [hw4] at hc4 bk
          rw [hg11] at bk ⊢
          have HC4 := hide ((unhide HCH).trans' hc4)
          have HO4 := hide (own_chg (unhide HOW) hc4 (fun _ _ => id))
          have HL := hide (fun W (hW : Chg (fun _ => False) w4 W) => (unhide HL0) W ((unhide HC4).trans' hW))
          have HBX := hide (fun W (hW : Chg (fun _ => False) w4 W) => bk.chg hW id)
          have HGG := hide (show wq.heap.size ≤ g11 from by rw [← hg11]; exact (unhide HCH).size)
          (obtain ⟨x0, x1, x2, x3, x4, x5⟩ : w4.cell? ⟨g11, 0, none⟩ = some (.int .i64 (x.kind : Int)) ∧ w4.cell? ⟨g11, 1, none⟩ = some (.string ⟨x.label.toArray⟩) ∧ w4.cell? ⟨g11, 2, none⟩ = some (.int .i64 (x.at_ : Int)) ∧ w4.cell? ⟨g11, 3, none⟩ = some (.int .i64 x.i.op) ∧ w4.cell? ⟨g11, 4, none⟩ = some (.int .i64 x.i.a) ∧ w4.cell? ⟨g11, 5, none⟩ = some (.int .i64 x.i.b) := ⟨bk.cell 0, bk.cell 1, bk.cell 2, bk.cell 3, bk.cell 4, bk.cell 5⟩)
          clear hc4 hw4 hg11 bk k0 k1 k2 k3 k4 k5 HOW HCH HL0
          rcases (show x.kind = 1 ∨ x.kind = 2 ∨ x.kind = 3 by omega) with hkd | hkd | hkd
          · have e2 : ((x.kind : Int) == 2) = false := beq_eq_false_iff_ne.2 (by omega)
            have e3 : ((x.kind : Int) != 3) = true := bne_iff_ne.2 (by omega)
            have HS := hide (show stepOf LN (LN.take k) x = .skip by unfold stepOf; rw [if_neg (by omega), if_neg (by omega)])
            clear hkd hkd0 hkd3
            go_wp2_with fail
            go_roundw
            case rel =>
              have h := unhide HST (unhide HS)
              refine ⟨k + 1, by go_num, by omega, ?_, h.1, unhide HC4⟩
              rw [h.2]; exact unhide HO4
            case measure => simp [intOf]; omega
          · have e2 : ((x.kind : Int) == 2) = true := beq_iff_eq.2 (by omega)
            have e3 : ((x.kind : Int) != 3) = true := bne_iff_ne.2 (by omega)
            have HS := hide (step_two (unhide HX) hkd)
            clear hkd hkd0 hkd3
            go_wp2_with fail
            go_loopw [12, 13] (fun bh kk wr => ∃ j : Nat, kk = .int .i64 (j : Int) ∧ k ≤ j ∧ j ≤ LN.length ∧ bh = .bool (behA LN k j) ∧ wr = w4) (fun _ kk _ => LN.length - (intOf kk).toNat)
            case atStart => exact ⟨k, rfl, Nat.le_refl _, hk, by rw [behA_start], rfl⟩
            case round =>
              obtain ⟨wv, rfl⟩ : ∃ wv : World, wv = wr := ⟨_, rfl⟩
              obtain ⟨j, rfl, hj1, hj2, rfl, hww⟩ := hrel
              subst hww
              by_cases hjl : j < LN.length
              · have hji : (j : Int) < (LN.length : Int) := by omega
                have hy := List.getElem?_eq_getElem hjl
                generalize LN[j] = y at *
                (obtain ⟨y0, y1, y2, y3, y4, y5⟩ := (unhide HL) _ (Chg.refl _ _) j y hy)
                have HN := hide (behA_next hy hj1)
                generalize behA LN k j = bb at *
                have HB3 := hide (show decide (y.kind = 3) = ((y.kind : Int) == 3) from by rw [Bool.eq_iff_iff]; simp; omega)
                clear hy
                cases hy3 : ((y.kind : Int) == 3)
                all_goals
                  have HN2 := hide (show behA LN k (j + 1) = (bb || _) from by rw [unhide HN, unhide HB3, hy3])
                  clear HN
                  cases bb
                all_goals
                  go_wp2_with fail
                  go_roundw
                  case rel => exact ⟨j + 1, by go_num, by omega, by omega, by rw [unhide HN2]; rfl, by first | rfl | trivial⟩
                  case measure => simp [intOf]; omega
              · obtain rfl : j = LN.length := by omega
                clear hjl
                generalize behA LN k LN.length = BH at *
                go_wp2_with fail
                go_loopw [12, 14] (fun bh kk wr => ∃ j : Nat, kk = .int .i64 (j : Int) ∧ j ≤ k ∧ bh = .bool (BH && !saidA LN x.label j) ∧ Chg (fun _ => False) wv wr) (fun _ kk _ => k - (intOf kk).toNat)
                case atStart => exact ⟨0, rfl, Nat.zero_le _, by simp [saidA], Chg.refl _ _⟩
                case round =>
                  obtain ⟨wu, rfl⟩ : ∃ wu : World, wu = wr := ⟨_, rfl⟩
                  obtain ⟨j, rfl, hj, rfl, hcu⟩ := hrel
                  have HCU := hide hcu
                  have bx := (unhide HBX) _ hcu
                  unfold lnc at bx
                  have z0 := bx.cell 0
                  have z1 := bx.cell 1
                  (obtain ⟨z0, z1⟩ : wu.cell? ⟨g11, 0, none⟩ = some (.int .i64 (x.kind : Int)) ∧ wu.cell? ⟨g11, 1, none⟩ = some (.string ⟨x.label.toArray⟩) := ⟨z0, z1⟩)
                  clear bx x0 x1 x2 x3 x4 x5
                  by_cases hjk : j < k
                  · have hji : (j : Int) < (k : Int) := by omega
                    have hjl : (j : Int) < (LN.length : Int) := by omega
                    have hy := List.getElem?_eq_getElem (show j < LN.length by omega)
                    generalize LN[j] = y at *
                    (obtain ⟨y0, y1, y2, y3, y4, y5⟩ := (unhide HL) _ hcu j y hy)
                    have HN := hide (saidA_next (s := x.label) hy)
                    have HB3 := hide (show decide (y.kind = 2) = ((y.kind : Int) == 2) from by rw [Bool.eq_iff_iff]; simp; omega)
                    have HB4 := hide (show decide (y.label = x.label) = (y.label == x.label) from by rw [Bool.eq_iff_iff]; simp)
                    rw [unhide HB3, unhide HB4] at HN
                    clear HB3 HB4 hy hcu
                    generalize saidA LN x.label j = sa at *
                    generalize y.label = ly at *
                    generalize x.label = lx at *
                    by_cases hyx : ly = lx
                    · subst hyx
                      have hyl : (ly == ly) = true := beq_self_eq_true ly
                      cases hy2 : ((y.kind : Int) == 2)
                      all_goals
                        rw [hy2, hyl] at HN
                        clear hyl
                        cases BH <;> cases sa
                      all_goals
                        go_wp2_with fail
                        go_quiet (fail)
                        go_wp2_with fail
                        go_roundw
                        case rel => exact ⟨j + 1, by go_num, by omega, by rw [unhide HN]; rfl, (unhide HCU).drewN _⟩
                        case measure => simp [intOf]; omega
                    · have hyl : (ly == lx) = false := beq_eq_false_iff_ne.2 hyx
                      clear hyx
                      cases hy2 : ((y.kind : Int) == 2)
                      all_goals
                        rw [hy2, hyl] at HN
                        cases BH <;> cases sa
                      all_goals
                        go_wp2_with fail
                        go_quiet (fail)
                        go_wp2_with fail
                        go_roundw
                        case rel => exact ⟨j + 1, by go_num, by omega, by rw [unhide HN]; rfl, (unhide HCU).drewN _⟩
                        case measure => simp [intOf]; omega
                  · obtain rfl : j = k := by omega
                    have HCF := hide ((unhide HCW).trans' ((unhide HC4).trans' hcu))
                    have HCG := hide ((unhide HC4).trans' hcu)
                    have HOG := hide (own_chg (unhide HO4) hcu (fun _ _ => id))
                    clear hcu
                    generalize saidA LN x.label j = sa at *
                    cases hbv : (BH && !sa) with
                    | true =>
                      have HSS := hide (show stepOf LN (LN.take j) x = .skip by rw [unhide HS, hbv]; rfl)
                      clear HS
                      go_wp2_with fail
                      go_roundw
                      case rel =>
                        have h := unhide HST (unhide HSS)
                        refine ⟨j + 1, by go_num, by omega, ?_, h.1, unhide HCG⟩
                        rw [h.2]; exact unhide HOG
                      case measure => simp [intOf]; omega
                    | false =>
                      have HSS := hide (show stepOf LN (LN.take j) x = .bad by rw [unhide HS, hbv]; rfl)
                      clear HS
                      go_wp2_with fail
                      go_ret3
                      rw [unhide HBD (unhide HSS)]
                      exact ⟨rfl, unhide HCF⟩
          · have e2 : ((x.kind : Int) == 2) = false := beq_eq_false_iff_ne.2 (by omega)
            have e3 : ((x.kind : Int) != 3) = false := by rw [hkd]; rfl
            have HS := hide (show stepOf LN (LN.take k) x = if goesB x.i.op then (if placeP LN x.label = 0 then .bad else .put ⟨x.i.op, ((placeP LN x.label - 1 : Nat) : Int), x.i.b⟩) else .put x.i by unfold stepOf; rw [if_neg (by omega), if_pos hkd])
            have HGO := hide (refGoes_any x.i.op w4)
            have hm1 : (cameOf LN [] (LN.take k)).length + 1 ≤ maxLen := by simp only [maxLen]; omega
            have hm2 : ((cameOf LN [] (LN.take k)).length + 1) * 24 ≤ 140737488355328 := by omega
            clear hkd hkd0 hkd3
            cases hg : goesB x.i.op with
            | false =>
              rw [hg] at HGO
              have HSS := hide (show stepOf LN (LN.take k) x = .put x.i by rw [unhide HS, hg]; rfl)
              have HRN := hide (fun W : World => (rd_new W W.heap.size 42 (insv ⟨x.i.op, x.i.a, x.i.b⟩) rfl).mono (T' := fun _ => True) (fun _ _ => trivial))
              have HON := hide (insv_one ⟨x.i.op, x.i.a, x.i.b⟩)
              have hb4 : wq.heap.size ≤ (w4.alloc (.cells (insv ⟨x.i.op, x.i.a, x.i.b⟩).toArray 42)).heap.size := ((unhide HC4).alloc (.cells (insv ⟨x.i.op, x.i.a, x.i.b⟩).toArray 42)).size
              clear HS hg
              go_wp2_with (first
                | (go_at_call 34; (with_reducible refine (unhide HGO).mono ?_); rintro e w5 ⟨rfl, rfl⟩)
                | (at_builtin; (refine wpList_append_rd _ rfl (.tmp 142) (.tmp 145) 22 rfl wq.heap.size 42 i_i (.agg #[.int .i64 0, .int .i64 0, .int .i64 0]) 3 24 Tryd.underlying22 i_hi i_hz i_hs i_hb rfl (by decide) _ (cameOf LN [] (LN.take k)).length _ rfl ((unhide HO4).alloc _) (fun _ => True) (some ⟨w4.heap.size, 0, none⟩) 1 1 (insv ⟨x.i.op, x.i.a, x.i.b⟩) rfl rfl ((unhide HRN) w4) (unhide HON) hm1 hm2 hb4 ?_); intro v5 w5 ho_ hc_ hat_; (have HO5 := hide ho_); (have HC5 := hide ((unhide HC4).trans (((Chg.refl (fun z_ => (Value.slice B9 (cameOf LN [] (LN.take k)).length c9).ownBlock = some z_) w4).alloc (.cells (insv ⟨x.i.op, x.i.a, x.i.b⟩).toArray 42)).trans hc_ (fun _ _ h => h)) (fun i hi e => by have := ((unhide HO4).lt i e).1; omega))); clear ho_ hc_ hat_))
              go_roundw
              case rel =>
                have h := unhide HPU x.i (unhide HSS)
                refine ⟨k + 1, by go_num, by omega, ?_, h.1, unhide HC5⟩
                rw [h.2, List.flatMap_append, List.flatMap_singleton, List.length_append]
                exact unhide HO5
              case measure => simp [intOf]; omega
            | true =>
              rw [hg] at HGO
              have HSS := hide (show stepOf LN (LN.take k) x = if placeP LN x.label = 0 then .bad else .put ⟨x.i.op, ((placeP LN x.label - 1 : Nat) : Int), x.i.b⟩ by rw [unhide HS, hg]; rfl)
              clear HS hg
              go_wp2_with (go_at_call 34; (with_reducible refine (unhide HGO).mono ?_); rintro e w5 ⟨rfl, rfl⟩)
              go_loopw [15, 16, 17] (fun tv nn kk wr => ∃ (j : Nat), kk = .int .i64 (j : Int) ∧ j ≤ LN.length ∧ tv = .int .i64 (((placeP (LN.take j) x.label : Nat) : Int) - 1) ∧ nn = .int .i64 ((doesN (LN.take j) : Nat) : Int) ∧ Chg (fun _ => False) w4 wr) (fun _ _ kk _ => LN.length - (intOf kk).toNat)
              case atStart => exact ⟨0, rfl, Nat.zero_le _, rfl, rfl, Chg.refl _ _⟩
              case round =>
                obtain ⟨wu, rfl⟩ : ∃ wu : World, wu = wr := ⟨_, rfl⟩
                obtain ⟨j, rfl, hj, rfl, rfl, hcu⟩ := hrel
                have HCU := hide hcu
                have bx := (unhide HBX) _ hcu
                have BX := hide bx
                unfold lnc at bx
                (obtain ⟨z0, z1, z3, z5⟩ : wu.cell? ⟨g11, 0, none⟩ = some (.int .i64 (x.kind : Int)) ∧ wu.cell? ⟨g11, 1, none⟩ = some (.string ⟨x.label.toArray⟩) ∧ wu.cell? ⟨g11, 3, none⟩ = some (.int .i64 x.i.op) ∧ wu.cell? ⟨g11, 5, none⟩ = some (.int .i64 x.i.b) := ⟨bx.cell 0, bx.cell 1, bx.cell 3, bx.cell 5⟩)
                clear bx x0 x1 x2 x3 x4 x5
                have hpl := placeP_le (LN.take j) x.label
                have hdl := doesN_le (LN.take j)
                rw [List.length_take] at hpl hdl
                by_cases hjl : j < LN.length
                · have hji : (j : Int) < (LN.length : Int) := by omega
                  have hy := List.getElem?_eq_getElem hjl
                  have hyd0 := (unhide HGD0) LN[j] (List.getElem_mem hjl)
                  have hyd3 := (unhide HGD3) LN[j] (List.getElem_mem hjl)
                  generalize LN[j] = y at *
                  (obtain ⟨y0, y1, y2, y3, y4, y5⟩ := (unhide HL) _ hcu j y hy)
                  have hp1 := placeP_snoc (LN.take j) y x.label
                  have hd1 := doesN_snoc (LN.take j) y
                  rw [← (ln_split hy).2.2.1] at hp1 hd1
                  clear hy hcu y2 y3 y4 y5
                  generalize placeP (LN.take j) x.label = pl at *
                  generalize doesN (LN.take j) = dn at *
                  rcases (show y.kind = 1 ∨ y.kind = 2 ∨ y.kind = 3 by omega) with hkd | hkd | hkd
                  · have q2 : ((y.kind : Int) == 2) = false := by rw [hkd]; rfl
                    have q3 : ((y.kind : Int) == 3) = false := by rw [hkd]; rfl
                    rw [if_neg (by omega)] at hp1 hd1
                    have HP1 := hide hp1
                    have HD1 := hide hd1
                    clear hp1 hd1 hkd hyd0 hyd3
                    go_wp2_with fail
                    go_quiet (fail)
                    go_wp2_with fail
                    go_roundw
                    case rel => exact ⟨j + 1, by go_num, by omega, by first | (rw [unhide HP1]; done) | (rw [unhide HP1]; exact congrArg (Value.int .i64) (by omega)), by first | (rw [unhide HD1]; done) | (rw [unhide HD1]; go_num), (unhide HCU).drewN _⟩
                    case measure => simp [intOf]; omega
                  · have q2 : ((y.kind : Int) == 2) = true := by rw [hkd]; rfl
                    have q3 : ((y.kind : Int) == 3) = false := by rw [hkd]; rfl
                    rw [if_neg (by omega)] at hd1
                    have HD1 := hide hd1
                    generalize y.label = ly at *
                    by_cases hyx : ly = x.label
                    · subst hyx
                      by_cases hpz : pl = 0
                      · have ht : ((pl : Int) - 1 < 0) := by omega
                        rw [if_pos ⟨hpz, hkd, rfl⟩] at hp1
                        have HP1 := hide hp1
                        clear hp1 hd1 hkd hyd0 hyd3
                        go_wp2_with fail
                        go_quiet (fail)
                        go_wp2_with fail
                        go_roundw
                        case rel => exact ⟨j + 1, by go_num, by omega, by first | (rw [unhide HP1]; done) | (rw [unhide HP1]; exact congrArg (Value.int .i64) (by omega)), by first | (rw [unhide HD1]; done) | (rw [unhide HD1]; go_num), (unhide HCU).drewN _⟩
                        case measure => simp [intOf]; omega
                      · have ht : ¬ ((pl : Int) - 1 < 0) := by omega
                        rw [if_neg (fun h => hpz h.1)] at hp1
                        have HP1 := hide hp1
                        clear hp1 hd1 hkd hyd0 hyd3
                        go_wp2_with fail
                        go_quiet (fail)
                        go_wp2_with fail
                        go_roundw
                        case rel => exact ⟨j + 1, by go_num, by omega, by first | (rw [unhide HP1]; done) | (rw [unhide HP1]; exact congrArg (Value.int .i64) (by omega)), by first | (rw [unhide HD1]; done) | (rw [unhide HD1]; go_num), (unhide HCU).drewN _⟩
                        case measure => simp [intOf]; omega
                    · have hyl : (ly == x.label) = false := beq_eq_false_iff_ne.2 hyx
                      rw [if_neg (fun h => hyx h.2.2)] at hp1
                      have HP1 := hide hp1
                      clear hp1 hd1 hkd hyd0 hyd3 hyx
                      go_wp2_with fail
                      go_quiet (fail)
                      go_wp2_with fail
                      go_roundw
                      case rel => exact ⟨j + 1, by go_num, by omega, by first | (rw [unhide HP1]; done) | (rw [unhide HP1]; exact congrArg (Value.int .i64) (by omega)), by first | (rw [unhide HD1]; done) | (rw [unhide HD1]; go_num), (unhide HCU).drewN _⟩
                      case measure => simp [intOf]; omega
                  · have q2 : ((y.kind : Int) == 2) = false := by rw [hkd]; rfl
                    have q3 : ((y.kind : Int) == 3) = true := by rw [hkd]; rfl
                    rw [if_neg (by omega)] at hp1
                    rw [if_pos hkd] at hd1
                    have HP1 := hide hp1
                    have HD1 := hide hd1
                    clear hp1 hd1 hkd hyd0 hyd3
                    go_wp2_with fail
                    go_quiet (fail)
                    go_wp2_with fail
                    go_roundw
                    case rel => exact ⟨j + 1, by go_num, by omega, by first | (rw [unhide HP1]; done) | (rw [unhide HP1]; exact congrArg (Value.int .i64) (by omega)), by first | (rw [unhide HD1]; done) | (rw [unhide HD1]; go_num), (unhide HCU).drewN _⟩
                    case measure => simp [intOf]; omega
                · obtain rfl : j = LN.length := by omega
                  rw [List.take_length] at hpl hdl ⊢
                  have HCF := hide ((unhide HCW).trans' ((unhide HC4).trans' hcu))
                  have HCG := hide ((unhide HC4).trans' hcu)
                  have HOG := hide (own_chg (unhide HO4) hcu (fun _ _ => id))
                  have f4 := (unhide BX).frozen 4
                  have z4 : wu.cell? ⟨g11, 4, none⟩ = some (.int .i64 x.i.a) := (unhide BX).cell 4
                  clear hcu
                  generalize placeP LN x.label = pl at *
                  by_cases hpz : pl = 0
                  · have ht : ((pl : Int) - 1 < 0) := by omega
                    have HR := hide (unhide HBD (by rw [unhide HSS, if_pos hpz]))
                    clear hpz
                    go_wp2_with fail
                    go_ret3
                    rw [unhide HR]
                    exact ⟨rfl, unhide HCF⟩
                  · have ht : ¬ ((pl : Int) - 1 < 0) := by omega
                    have HR := hide (unhide HPU _ (by rw [unhide HSS, if_neg hpz]))
                    have HPE := hide (show (((pl - 1 : Nat) : Int)) = (pl : Int) - 1 by omega)
                    rw [unhide HPE] at HR
                    clear hpz HPE HSS
                    generalize ((pl : Int) - 1) = tq at *
                    have HRN := hide (fun W : World => (rd_new W W.heap.size 42 (insv ⟨x.i.op, tq, x.i.b⟩) rfl).mono (T' := fun _ => True) (fun _ _ => trivial))
                    have HON := hide (insv_one ⟨x.i.op, tq, x.i.b⟩)
                    go_upto_region 40 with fail
                    have bk6 := (unhide BX).set_ 4 (.int .i64 tq)
                    have hc6 := (unhide HCG).setCell (p := ⟨g11, 4, none⟩) (fun h => absurd h (by have := unhide HGG; show ¬ g11 < wq.heap.size; omega)) (.int .i64 tq)
                    have ho6 := own_chg (unhide HOG) ((Chg.refl (fun z_ => z_ = g11) wu).setCell (p := ⟨g11, 4, none⟩) (fun _ => rfl) (.int .i64 tq)) (fun j h1 h2 => own_blk_ne (unhide HOG) (unhide BX) (by decide) (by rw [← show j = g11 from h2]; exact h1))
                    generalize wu.setCell ⟨g11, 4, none⟩ (.int .i64 tq) = w6 at bk6 hc6 ho6 ⊢
                    have HC6 := hide hc6
                    have HO6 := hide ho6
                    (obtain ⟨v3, v4, v5⟩ : w6.cell? ⟨g11, 3, none⟩ = some (.int .i64 x.i.op) ∧ w6.cell? ⟨g11, 4, none⟩ = some (.int .i64 tq) ∧ w6.cell? ⟨g11, 5, none⟩ = some (.int .i64 x.i.b) := ⟨(bk6.cell 3).trans rfl, (bk6.cell 4).trans rfl, (bk6.cell 5).trans rfl⟩)
                    have hb4 : wq.heap.size ≤ (w6.alloc (.cells (insv ⟨x.i.op, tq, x.i.b⟩).toArray 42)).heap.size := (hc6.alloc (.cells (insv ⟨x.i.op, tq, x.i.b⟩).toArray 42)).size
                    clear bk6 hc6 ho6 z0 z1 z3 z4 z5 f4
                    go_wp2_with (at_builtin; (refine wpList_append_rd _ rfl (.tmp 142) (.tmp 145) 22 rfl wq.heap.size 42 i_i (.agg #[.int .i64 0, .int .i64 0, .int .i64 0]) 3 24 Tryd.underlying22 i_hi i_hz i_hs i_hb rfl (by decide) _ (cameOf LN [] (LN.take k)).length _ rfl ((unhide HO6).alloc _) (fun _ => True) (some ⟨w6.heap.size, 0, none⟩) 1 1 (insv ⟨x.i.op, tq, x.i.b⟩) rfl rfl ((unhide HRN) w6) (unhide HON) hm1 hm2 hb4 ?_); intro v7 w7 ho_ hc_ hat_; (have HO7 := hide ho_); (have HC7 := hide ((unhide HC6).trans (((Chg.refl (fun z_ => (Value.slice B9 (cameOf LN [] (LN.take k)).length c9).ownBlock = some z_) w6).alloc (.cells (insv ⟨x.i.op, tq, x.i.b⟩).toArray 42)).trans hc_ (fun _ _ h => h)) (fun i hi e => by have := ((unhide HO6).lt i e).1; omega))); clear ho_ hc_ hat_)
                    go_roundw
                    case rel =>
                      have h := unhide HR
                      refine ⟨k + 1, by go_num, by omega, ?_, h.1, unhide HC7⟩
                      rw [h.2, List.flatMap_append, List.flatMap_singleton, List.length_append]
                      exact unhide HO7
                    case measure => simp [intOf]; omega
        · obtain rfl : k = LN.length := by omega
          have hend := p2_end (Nat.le_refl _) hp2
          have hcl2 : ((cameOf LN [] (LN.take LN.length)).length : Int) ≤ 20000 := by omega
          have HF := hide (show RT = .ok (cameOf LN [] (LN.take LN.length)) by rw [unhide HRT3, hend]; rfl)
          have HRDO := hide ((own_rd hown (by decide)).mono (fun j hj => (hown.lt j hj).1))
          have HCF := hide ((unhide HCW).trans' hch)
          have HWW := hide (unhide HCW).size
          clear hown hp2 hch hend HOW HCH HP2
          generalize cameOf LN [] (LN.take LN.length) = OUT at *
          go_wp2_with fail
          go_ret3
          rw [unhide HF]
          exact ⟨⟨B9, c9, rfl, (unhide HRDO).mono (fun j hj => by have h := unhide HWW; omega)⟩, unhide HCF⟩
end Go.Proofs.YtgonllogaiiicaaDoor
