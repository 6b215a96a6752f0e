/-
  Layer 17: text.Read.
-/
import Derived.Test.YtgonllogaiiicaaDoorWm
import Derived.Test.YtgonllogaiiicaaDoorMap
import Derived.Test.YtgonllogaiiicaaDoorM02
import Derived.Test.YtgonllogaiiicaaDoorM01
import Derived.Carry
import Derived.Maps.OwnOps
import Derived.StringKeys
import Derived.Scope
namespace Go.Proofs.YtgonllogaiiicaaDoor
open Go.RowKit
set_option maxHeartbeats 4000000
set_option maxRecDepth 100000
theorem good_more {l : List Ln} {x : Ln} (h : ∀ y ∈ l, y.kind ≠ 0) (hx : x.kind ≠ 0) : ∀ y ∈ l ++ [x], y.kind ≠ 0 := by
  intro y hy
  rcases List.mem_append.1 hy with hy | hy
  · exact h y hy
  · rw [List.mem_singleton] at hy; subst hy; exact hx
def resOf (x : Except Nat (List Ins)) : Res := match x with
  | .error k => .label k
  | .ok l => .ok l
def skey (s : Bs) : Lit := .string s
theorem skey_inj (x y : Bs) (h : skey x = skey y) : x = y := by
  unfold skey at h
  injection h
theorem skey_lit (x : Bs) : WideAt.IsKeyLit (skey x) := trivial
theorem keyed9 : Go.Maps.Keyed Tryd.prog 9 := Go.Maps.string_keyed Tryd.underlying9
theorem zero3v (w : World) : (zeroValue 3).run Tryd.prog w = .ok (.int .i64 0) w := by kernel_rfl
theorem key9 (s : Bs) (hs : s.length ≤ 1000000000) : keyOf Tryd.prog 9 (.string ⟨s.toArray⟩) = some (skey s) := Go.WideMaps.keyOf_string_mk Tryd.underlying9 (by show s.toArray.size ≤ _; rw [List.size_toArray]; simp only [maxLen]; omega)
theorem label_len {s : Bs} (h : s.length ≤ 100000000) : (readL s).label.length ≤ 1000000000 := by
  by_cases hk : 2 ≤ (readL s).kind
  · by_cases hl : (readL s).label = []
    · rw [hl]; simp
    · obtain ⟨u, v, e, _⟩ := readL_split s hk hl
      have := congrArg List.length e
      rw [List.length_append, List.length_append] at this
      omega
  · have : (readL s).label = [] := by
      have h1 : readL s = wrongL ∨ wordsL s = [] := readL_low hk
      rcases h1 with h1 | h1
      · rw [h1]; rfl
      · unfold readL; rw [h1]; rfl
    rw [this]; simp
/-- What text.Read hands back. -/
def ReadOut (w : World) (r : Res) (e : Ending) (w' : World) : Prop := (match r with
  | .line k => e = .returned (.tuple #[.slice none 0 0, .int .i64 (k : Int), .int .i64 170])
  | .label k => e = .returned (.tuple #[.slice none 0 0, .int .i64 (k : Int), .int .i64 171])
  | .ok l => ∃ A c, e = .returned (.tuple #[.slice A l.length c, .int .i64 0, .int .i64 0]) ∧ Rd (fun k => w.heap.size ≤ k) w' A (l.flatMap insv)) ∧ Chg (fun _ => False) w w'
theorem infoIns : (Tryd.prog.info? 42).map (fun i => (i.zero, i.size, i.bytes)) = some (some (.agg #[.int .i64 0, .int .i64 0, .int .i64 0]), 3, 24) := by kernel_rfl
theorem insv_one (i : Ins) : ∀ u ∈ insv i, u.oneCell' = true := by intro u hu; simp [insv] at hu; rcases hu with rfl | rfl | rfl <;> rfl
theorem insv_len (l : List Ins) : (l.flatMap insv).length = l.length * 3 := by
  induction l with
  | nil => rfl
  | cons x l ih => rw [List.flatMap_cons, List.length_append, ih, List.length_cons]; simp [insv]; omega
theorem readAll_any (s : ByteArray) (w : World) (hl : Lay w) (hs : s.size ≤ 100000000) (hln : (linesL s.data.toList).length ≤ 20000) : Calls Tryd.prog 14 #[.string s] w fun e w' => ReadOut w (readT s.data.toList) e w' := by
  obtain ⟨q_i, q_hi, q_hz, q_hs, q_hb⟩ := info_parts infoIns
  have HSP := hide (split_row s w hl (by omega))
  have HLE := hide (fun x (hx : x ∈ linesL s.data.toList) => show x.length ≤ 100000000 from by
    have h1 := line_len hx
    have h2 : s.data.toList.length = s.size := rfl
    omega)
  have HRT := hide (show readT s.data.toList = readAll ((linesL s.data.toList).map readL) from rfl)
  generalize readT s.data.toList = RT at *
  generalize linesL s.data.toList = LS at *
  have HRD0 := hide (rd_new w w.heap.size 9 (LS.map bv) rfl)
  have HC0 := hide ((Chg.refl (fun _ => False) w).alloc (.cells (LS.map bv).toArray 9))
  have HLY := hide (fun W (hW : Chg (fun _ => False) w W) => hl.chg hW (fun _ _ => id))
  obtain ⟨LN, hLN⟩ : ∃ LN, LS.map readL = LN := ⟨_, rfl⟩
  have HAT := hide (fun (k : Nat) (x : Bs) (hx : LS[k]? = some x) => show LN[k]? = some (readL x) from by rw [← hLN, List.getElem?_map, hx]; rfl)
  have HLL := hide (show LN.length = LS.length by rw [← hLN, List.length_map])
  rw [hLN] at HRT
  clear hl hLN
  go_enter Tryd.func14, Tryd.ntmps14
  go_wp2_with fail
  refine wp_scope_straight ?_
  go_upto_region 2 with (go_at_call 40; (with_reducible refine (unhide HSP).mono ?_); rintro e w2 ⟨rfl, hw2⟩; subst hw2)
  obtain ⟨wa, hwa⟩ : ∃ wa, w.alloc (.cells (LS.map bv).toArray 9) = wa := ⟨_, rfl⟩
  have hrd0 := unhide HRD0
  have hc0 := unhide HC0
  rw [hwa] at hrd0 hc0 ⊢
  have HR := hide (hrd0.low)
  have HCA := hide hc0
  clear HRD0 HC0 hrd0 hc0 hwa HSP
  have HCL := hide (fun W (hW : Chg (fun _ => False) wa W) (k : Nat) (x : Bs) (hx : LS[k]? = some x) => show W.cell? ⟨w.heap.size, k, none⟩ = some (.string ⟨x.toArray⟩) from by
    have h := (unhide HR).chg hW (fun _ _ _ => id)
    obtain ⟨ad, e, _, hc⟩ := h (by intro e; have := List.map_eq_nil_iff.1 e; rw [this] at hx; cases hx)
    injection e with e
    subst e
    have := hc k (bv x) (by rw [List.getElem?_map, hx]; rfl)
    rw [add_flat, Nat.zero_add] at this
    exact this)
  clear HR
  have hmm := @run_makeMap Tryd.prog
  go_wp2_with fail
  clear hmm
  obtain ⟨b1, hb1⟩ : ∃ b1, wa.heap.size = b1 := ⟨_, rfl⟩
  obtain ⟨wm, hwm⟩ : ∃ wm, wa.alloc (.map #[] 0) = wm := ⟨_, rfl⟩
  have hcm : Chg (fun _ => False) wa (wa.alloc (.map #[] 0)) := (Chg.refl _ wa).alloc _
  have hmk := MapK.made wa Tryd.prog 9 3 .i64 skey wa.heap.size rfl
  rw [hwm] at hcm hmk
  rw [hb1] at hmk
  rw [hwm, hb1]
  have HAM := hide hcm
  have HMK := hide hmk
  have HB1 := hide (show wa.heap.size ≤ b1 by omega)
  clear hcm hmk hwm hb1
  have HN0 := hide (show (∀ s, ((fun _ => none : Bs → Option Int) s).getD 0 = ((placeP (LN.take 0) s : Nat) : Int)) from fun s => rfl)
  go_loopw [7, 8, 26] (fun la nn i wr => ∃ (k : Nat) (N : Nat) (f : Bs → Option Int), i = .int .i64 (k : Int) ∧ k ≤ LS.length ∧ la = .int .i64 (lastOf (LN.take k)) ∧ nn = .int .i64 ((doesN (LN.take k) : Nat) : Int) ∧ MapK Tryd.prog 9 3 .i64 skey wr b1 N f ∧ N ≤ k ∧ (∀ s, (f s).getD 0 = ((placeP (LN.take k) s : Nat) : Int)) ∧ (∀ y ∈ LN.take k, y.kind ≠ 0) ∧ Chg (fun j => j = b1) wm wr) (fun _ _ i _ => LS.length - (intOf i).toNat)
  case atStart => exact ⟨0, 0, _, rfl, Nat.zero_le _, rfl, rfl, unhide HMK, Nat.le_refl _, unhide HN0, by simp, Chg.refl _ _⟩
  case round =>
    obtain ⟨wq, rfl⟩ : ∃ wq : World, wq = wr := ⟨_, rfl⟩
    obtain ⟨k, N, f, rfl, hk, rfl, rfl, hmap, hNk, hfp, hgood, hch⟩ := hrel
    have hcha : Chg (fun _ => False) wa wq := (unhide HAM).trans hch (fun i hi h => by have h1 := unhide HB1; have : i = b1 := h; omega)
    have HCHA := hide hcha
    have HCH := hide hch
    have HMP := hide hmap
    have HFP := hide hfp
    have HGD := hide hgood
    have hd1 := doesN_le (LN.take k)
    rw [List.length_take] at hd1
    have hl1 := lastOf_lt (LN.take k)
    by_cases hlt : k < LS.length
    · have hki : (k : Int) < (LS.length : Int) := by omega
      have hx := List.getElem?_eq_getElem hlt
      generalize LS[k] = x at *
      have k1 := (unhide HCL) _ hcha k x hx
      have hxl := (unhide HLE) x (List.mem_of_getElem? hx)
      have HRE := hide (read_any x wq ((unhide HLY) _ ((unhide HCA).trans' hcha)) hxl)
      have hln2 := (unhide HAT) k x hx
      have hkd3 := readL_kind x
      unfold rdV insV at HRE
      have HTK := hide (ln_split hln2).2.2.1
      have hpl := placeP_le (LN.take k) (readL x).label
      rw [List.length_take] at hpl
      have HLB := hide (show (readL x).label.length ≤ 1000000000 from label_len hxl)
      generalize readL x = X at *
      have HLN2 := hide hln2
      obtain ⟨kd, lb, at_, ii⟩ := X
      obtain ⟨io, ia, ib⟩ := ii
      simp only at HRE hkd3 HLB hpl
      clear hmap hfp hgood hch hcha hx hxl hln2
      go_upto_region 9 with (go_at_call 41; (with_reducible refine (unhide HRE).mono ?_); rintro e w3 ⟨rfl, hc3⟩; have HC3 := hide hc3; clear hc3)
      obtain ⟨w4, hw4⟩ : ∃ w4, w3.alloc (.cells #[.int .i64 io, .int .i64 ia, .int .i64 ib] 42) = w4 := ⟨_, rfl⟩
      have hc4 : Chg (fun _ => False) w3 (w3.alloc (.cells #[.int .i64 io, .int .i64 ia, .int .i64 ib] 42)) := (Chg.refl _ w3).alloc _
      rw [hw4] at hc4 ⊢
      have HC34 := hide ((unhide HC3).trans' hc4)
      have HM4 := hide ((unhide HMP).chg (unhide HC34) id)
      have HC4 := hide ((unhide HCH).trans (unhide HC34) (fun _ _ h => h.elim))
      clear hc4 hw4 HC3 HRE k1 HMP
      obtain rfl | rfl | rfl | rfl : kd = 0 ∨ kd = 1 ∨ kd = 2 ∨ kd = 3 := by omega
      · -- a wrong line
        have HR0 := hide (readAll_line (unhide HLN2) rfl (unhide HGD))
        have HRT2 := hide (show RT = .line k by rw [unhide HRT]; exact unhide HR0)
        have HCF := hide ((unhide HCA).trans' ((unhide HCHA).trans' (unhide HC34)))
        clear HR0
        go_wp2_with fail
        go_ret3
        rw [unhide HRT2]
        exact ⟨rfl, unhide HCF⟩
      · -- no words
        have HL1 := hide (lastOf_snoc (LN.take k) ⟨1, lb, at_, ⟨io, ia, ib⟩⟩)
        have HD1 := hide (doesN_snoc (LN.take k) ⟨1, lb, at_, ⟨io, ia, ib⟩⟩)
        have HP1 := hide (fun s => placeP_snoc (LN.take k) ⟨1, lb, at_, ⟨io, ia, ib⟩⟩ s)
        go_wp2_with fail
        go_roundw
        case rel =>
          refine ⟨k + 1, N, f, by go_num, by omega, ?_, ?_, unhide HM4, by omega, fun s => ?_, ?_, unhide HC4⟩
          · rw [unhide HTK, unhide HL1]; rfl
          · rw [unhide HTK, unhide HD1]; rfl
          · rw [unhide HTK, unhide HP1 s, if_neg (by simp)]; exact unhide HFP s
          · rw [unhide HTK]; exact good_more (unhide HGD) (by simp)
        case measure => simp [intOf]; omega
      · -- a label
        have HL1 := hide (lastOf_snoc (LN.take k) ⟨2, lb, at_, ⟨io, ia, ib⟩⟩)
        have HD1 := hide (doesN_snoc (LN.take k) ⟨2, lb, at_, ⟨io, ia, ib⟩⟩)
        have HP1 := hide (fun s => placeP_snoc (LN.take k) ⟨2, lb, at_, ⟨io, ia, ib⟩⟩ s)
        have HKY := hide (key9 lb (unhide HLB))
        have HWF := hide (show (Lit.int .i64 ((doesN (LN.take k) : Int) + 1)).wf = true from WalkArith.wf_i64 (by omega))
        have hN2 : N < maxLen := by simp only [maxLen]; omega
        have HG1 := hide (show (f lb).getD 0 = ((placeP (LN.take k) lb : Nat) : Int) from unhide HFP lb)
        generalize doesN (LN.take k) = dn at *
        have HPZ := hide (show (((placeP (LN.take k) lb : Nat) : Int) == 0) = true → placeP (LN.take k) lb = 0 from fun h => by have := beq_iff_eq.1 h; omega)
        have HPN := hide (show (((placeP (LN.take k) lb : Nat) : Int) == 0) = false → placeP (LN.take k) lb ≠ 0 from fun h => by have := beq_eq_false_iff_ne.1 h; omega)
        cases hz : ((placeP (LN.take k) lb : Nat) : Int) == 0 with
        | true =>
          have HZ := hide hz
          have HZ1 := hide hz
          clear hz
          generalize ((placeP (LN.take k) lb : Nat) : Int) = pl at *
          have hz := unhide HZ
          go_wp2_with (first
            | (at_lookup; refine wpList_lookup_k1 rfl (.tmp 43) (.tmp 44) 72 rfl keyed9 Tryd.underlying72 Tryd.underlying3 (zero3v _) rfl (unhide HM4) _ lb rfl (unhide HKY) ?_; rw [unhide HG1])
            | (at_mapUpdate; refine wpList_update_k rfl (.tmp 47) (.tmp 48) (.tmp 50) 72 rfl skey_inj skey_lit keyed9 Tryd.underlying72 Tryd.underlying3 rfl (unhide HM4) hN2 _ lb ((dn : Int) + 1) rfl rfl (unhide HWF) (unhide HKY) ?_; intro w5 hm5 hc5; have HM5 := hide hm5; have HC5 := hide ((unhide HC4).trans' hc5); clear hm5 hc5))
          go_roundw
          case rel =>
            refine ⟨k + 1, N + 1, _, by go_num, by omega, ?_, ?_, unhide HM5, by omega, fun s => ?_, ?_, unhide HC5⟩
            · rw [unhide HTK, unhide HL1]; rfl
            · rw [unhide HTK, unhide HD1]; rfl
            · rw [unhide HTK, unhide HP1 s]
              by_cases hs : s = lb
              · rw [if_pos hs, if_pos ⟨by rw [hs]; exact (unhide HPZ) (unhide HZ1), rfl, hs.symm⟩]; rfl
              · rw [if_neg hs, if_neg (fun h => hs h.2.2.symm)]
                exact unhide HFP s
            · rw [unhide HTK]; exact good_more (unhide HGD) (by simp)
          case measure => simp [intOf]; omega
        | false =>
          have HZ1 := hide ((unhide HPN) hz)
          generalize ((placeP (LN.take k) lb : Nat) : Int) = pl at *
          go_wp2_with (first
            | (at_lookup; refine wpList_lookup_k1 rfl (.tmp 43) (.tmp 44) 72 rfl keyed9 Tryd.underlying72 Tryd.underlying3 (zero3v _) rfl (unhide HM4) _ lb rfl (unhide HKY) ?_; rw [unhide HG1]))
          go_roundw
          case rel =>
            refine ⟨k + 1, N, f, by go_num, by omega, ?_, ?_, unhide HM4, by omega, fun s => ?_, ?_, unhide HC4⟩
            · rw [unhide HTK, unhide HL1]; rfl
            · rw [unhide HTK, unhide HD1]; rfl
            · rw [unhide HTK, unhide HP1 s, if_neg (fun h => unhide HZ1 (by have e : lb = s := h.2.2; rw [e]; exact h.1))]
              exact unhide HFP s
            · rw [unhide HTK]; exact good_more (unhide HGD) (by simp)
          case measure => simp [intOf]; omega
      · -- it does something
        have HL1 := hide (lastOf_snoc (LN.take k) ⟨3, lb, at_, ⟨io, ia, ib⟩⟩)
        have HD1 := hide (doesN_snoc (LN.take k) ⟨3, lb, at_, ⟨io, ia, ib⟩⟩)
        have HP1 := hide (fun s => placeP_snoc (LN.take k) ⟨3, lb, at_, ⟨io, ia, ib⟩⟩ s)
        have HTKL := hide (show (LN.take k).length = k from (ln_split (unhide HLN2)).2.2.2)
        generalize doesN (LN.take k) = dn at *
        go_wp2_with fail
        go_roundw
        case rel =>
          refine ⟨k + 1, N, f, by go_num, by omega, ?_, ?_, unhide HM4, by omega, fun s => ?_, ?_, unhide HC4⟩
          · rw [unhide HTK, unhide HL1, if_pos rfl, unhide HTKL]
          · rw [unhide HTK, unhide HD1, if_pos rfl]; go_num
          · rw [unhide HTK, unhide HP1 s, if_neg (by simp)]; exact unhide HFP s
          · rw [unhide HTK]; exact good_more (unhide HGD) (by simp)
        case measure => simp [intOf]; omega
    · obtain rfl : k = LS.length := by omega
      have hki : ¬ (LS.length : Int) < (LS.length : Int) := by omega
      have htk : LN.take LS.length = LN := List.take_of_length_le (by have := unhide HLL; omega)
      rw [htk] at hfp hgood hd1 hl1 ⊢
      have HFP := hide hfp
      have HGD := hide hgood
      have HPLE := hide (show ∀ s, placeP LN s ≤ LS.length + 1 from fun s => by have := placeP_le LN s; have := unhide HLL; omega)
      have hgd0 : ∀ y ∈ LN, y.kind ≠ 0 := hgood
      have hon := readAll_on hgd0
      have HGD0 := hide hgd0
      have HRT2 := hide (show RT = resOf (goOn LN [] LN) by rw [unhide HRT, hon]; rfl)
      have HMQ := hide hmap
      clear hmap hfp hgood hch htk hgd0 hon HRT HMK HN0 HCH HMP
      have hmm := @run_makeMap Tryd.prog
      go_wp2_with fail
      clear hmm
      obtain ⟨b2, hb2⟩ : ∃ b2, wq.heap.size = b2 := ⟨_, rfl⟩
      obtain ⟨wn, hwn⟩ : ∃ wn, wq.alloc (.map #[] 0) = wn := ⟨_, rfl⟩
      have hcn : Chg (fun _ => False) wq (wq.alloc (.map #[] 0)) := (Chg.refl _ wq).alloc _
      have hmk := MapK.made wq Tryd.prog 9 3 .i64 skey wq.heap.size rfl
      rw [hwn] at hcn hmk
      rw [hb2] at hmk
      rw [hwn, hb2]
      have HMK := hide hmk
      have HB12 := hide (show b1 ≠ b2 from by
        have := (unhide HMQ).lt
        omega)
      have HM1 := hide ((unhide HMQ).chg hcn id)
      have HCN := hide ((unhide HCHA).trans' hcn)
      have HB2 := hide (show b2 < wn.heap.size from hmk.lt)
      have HB2w := hide (show wa.heap.size ≤ b2 from by have := (unhide HCHA).size; omega)
      clear hcn hmk hwn hb2 HMQ HCHA
      have HS0 := hide (show (∀ s, ((fun _ => none : Bs → Option Int) s).getD 0 = ((seenN (LN.take 0) s : Nat) : Int)) from fun s => rfl)
      obtain ⟨la, hla⟩ : ∃ la, lastOf LN = la := ⟨_, rfl⟩
      rw [hla] at hl1 ⊢
      have HLA := hide hla
      clear hla hd1
      refine wp_label ?_
      go_wp2_with fail
      go_loopw [14, 60] (fun row i wr => ∃ (k N2 : Nat) (g : Bs → Option Int), i = .int .i64 (k : Int) ∧ k ≤ LS.length ∧ wr.ownsRow wn.heap.size 42 3 row (cameOf LN [] (LN.take k)).length ((cameOf LN [] (LN.take k)).flatMap insv) ∧ MapK Tryd.prog 9 3 .i64 skey wr b2 N2 g ∧ N2 ≤ k ∧ (∀ s, (g s).getD 0 = ((seenN (LN.take k) s : Nat) : Int)) ∧ P2 LN k ∧ Chg (fun j => j = b2) wn wr) (fun _ i _ => LS.length - (intOf i).toNat)
      case atStart => exact ⟨0, 0, _, rfl, Nat.zero_le _, World.ownsRow_nil _ _ _ _, unhide HMK, Nat.le_refl _, unhide HS0, p2_start LN, Chg.refl _ _⟩
      case round =>
        clear HMK HS0
        obtain ⟨wz, rfl⟩ : ∃ wz : World, wz = wr := ⟨_, rfl⟩
        obtain ⟨k, N2, g, rfl, hk, hown, hmap, hNk, hfs, hp2, hch⟩ := hrel
        obtain ⟨B, c5, rfl⟩ := own_val hown
        have hcw : Chg (fun _ => False) wa wz := (unhide HCN).trans hch (fun i hi h => by have h1 := unhide HB2w; have : i = b2 := h; omega)
        have HCHA := hide hcw
        have HCH := hide hch
        have HMP := hide hmap
        have HFS := hide hfs
        have HP2 := hide hp2
        have HOW := hide hown
        have hcl := cameOf_length LN (LN.take k) []
        rw [List.length_take] at hcl
        have hsl := fun s => seenN_le (LN.take k) s
        by_cases hlt : k < LS.length
        · have hki : (k : Int) < (LS.length : Int) := by omega
          have hx := List.getElem?_eq_getElem hlt
          generalize LS[k] = x at *
          have k1 := (unhide HCL) _ hcw k x hx
          have hxl := (unhide HLE) x (List.mem_of_getElem? hx)
          have HRE := hide (read_any x wz ((unhide HLY) _ ((unhide HCA).trans' hcw)) hxl)
          have hln2 := (unhide HAT) k x hx
          have hkd3 := readL_kind x
          have hkd0 := (unhide HGD0) (readL x) (List.mem_of_getElem? hln2)
          unfold rdV insV at HRE
          have HTK := hide (ln_split hln2).2.2.1
          have HTKL := hide (ln_split hln2).2.2.2
          have HLB := hide (show (readL x).label.length ≤ 1000000000 from label_len hxl)
          generalize readL x = X at *
          have HLN2 := hide hln2
          obtain ⟨kd, lb, at_, ii⟩ := X
          obtain ⟨io, ia, ib⟩ := ii
          simp only at HRE hkd3 hkd0 HLB
          have hsl1 := hsl lb
          rw [List.length_take] at hsl1
          clear hmap hfs hp2 hch hcw hx hxl hln2 hown hsl
          go_upto_region 25 with (go_at_call 41; (with_reducible refine (unhide HRE).mono ?_); rintro e w3 ⟨rfl, hc3⟩; have HC3 := hide hc3; clear hc3)
          obtain ⟨w4, hw4⟩ : ∃ w4, w3.alloc (.cells #[.int .i64 io, .int .i64 ia, .int .i64 ib] 42) = w4 := ⟨_, rfl⟩
          obtain ⟨g20, hg20⟩ : ∃ g20, w3.heap.size = g20 := ⟨_, rfl⟩
          have hc4 : Chg (fun _ => False) w3 (w3.alloc (.cells #[.int .i64 io, .int .i64 ia, .int .i64 ib] 42)) := (Chg.refl _ w3).alloc _
          have bk := Blk.new w3 42 #[.int .i64 io, .int .i64 ia, .int .i64 ib]
          rw [hw4] at hc4 bk ⊢
          rw [hg20] at bk ⊢
          have HBK := hide bk
          have HC34 := hide ((unhide HC3).trans' hc4)
          have HM4 := hide ((unhide HMP).chg (unhide HC34) id)
          have HC4 := hide ((unhide HCH).trans (unhide HC34) (fun _ _ h => h.elim))
          have HCW4 := hide ((unhide HCA).trans' ((unhide HCHA).trans' (unhide HC34)))
          have HO4 := hide (own_chg (unhide HOW) (unhide HC34) (fun _ _ => id))
          have HGN := hide (show wn.heap.size ≤ g20 from by
            have h1 := (unhide HCH).size
            have h2 := (unhide HC3).size
            omega)
          have HRNG := hide (fun j (h : (Value.slice B (cameOf LN [] (LN.take k)).length c5).ownBlock = some j) => show j < g20 from by
            have h1 := ((unhide HOW).lt j h).2
            have h2 := (unhide HC3).size
            omega)
          clear hc4 bk hw4 hg20 HC3 HRE k1 HMP HOW
          generalize hcame : cameOf LN [] (LN.take k) = V at *
          have HCAME := hide hcame
          clear hcame
          obtain rfl | rfl | rfl : kd = 1 ∨ kd = 2 ∨ kd = 3 := by omega
          · -- no words
            have HS1 := hide (fun s => seenN_snoc (LN.take k) ⟨1, lb, at_, ⟨io, ia, ib⟩⟩ s)
            have HSK := hide (p2_skip (unhide HLN2) (unhide HP2) (by simp [stepOf]))
            go_wp2_with fail
            go_roundw
            case rel =>
              refine ⟨k + 1, N2, g, by go_num, by omega, ?_, unhide HM4, by omega, fun s => ?_, (unhide HSK).1, unhide HC4⟩
              · rw [(unhide HSK).2, unhide HCAME]; exact unhide HO4
              · rw [unhide HTK, unhide HS1 s, if_neg (by simp), Nat.add_zero]; exact unhide HFS s
            case measure => simp [intOf]; omega
          · -- a label
            have HS1 := hide (fun s => seenN_snoc (LN.take k) ⟨2, lb, at_, ⟨io, ia, ib⟩⟩ s)
            have HKY := hide (key9 lb (unhide HLB))
            have HG1 := hide (show (g lb).getD 0 = ((seenN (LN.take k) lb : Nat) : Int) from unhide HFS lb)
            have HST := hide (show stepOf LN (LN.take k) ⟨2, lb, at_, ⟨io, ia, ib⟩⟩ = (if (k : Int) > la ∨ 0 < seenN (LN.take k) lb then .bad else .skip) by
              rw [stepOf, if_pos rfl, unhide HTKL, unhide HLA])
            obtain ⟨sn, hsn⟩ : ∃ sn, seenN (LN.take k) lb = sn := ⟨_, rfl⟩
            rw [hsn] at HG1 HST hsl1
            have HSN := hide hsn
            clear hsn
            have HWF := hide (show (Lit.int .i64 ((sn : Int) + 1)).wf = true from WalkArith.wf_i64 (by omega))
            have hN2 : N2 < maxLen := by simp only [maxLen]; omega
            by_cases hbad : (k : Int) > la ∨ 0 < sn
            · have HRT3 := hide (show RT = .label k by rw [unhide HRT2, p2_bad (unhide HLN2) (unhide HP2) (by rw [unhide HST, if_pos hbad])]; rfl)
              have hbi : (1 : Int) < (sn : Int) + 1 ∨ ((¬ (1 : Int) < (sn : Int) + 1) ∧ la < (k : Int)) := by omega
              clear hbad
              rcases hbi with hb1_ | ⟨hb1_, hb2_⟩
              all_goals
                go_wp2_with (first
                  | (at_lookup; refine wpList_lookup_k1 rfl (.tmp 74) (.tmp 75) 72 rfl keyed9 Tryd.underlying72 Tryd.underlying3 (zero3v _) rfl (unhide HM4) _ lb rfl (unhide HKY) ?_; rw [unhide HG1])
                  | (at_mapUpdate; refine wpList_update_k rfl (.tmp 74) (.tmp 75) (.tmp 77) 72 rfl skey_inj skey_lit keyed9 Tryd.underlying72 Tryd.underlying3 rfl (unhide HM4) hN2 _ lb ((sn : Int) + 1) rfl rfl (unhide HWF) (unhide HKY) ?_; intro w5 hm5 hc5; have HM5 := hide hm5; have HC5 := hide hc5; clear hm5 hc5)
                  | (at_lookup; refine wpList_lookup_k1 rfl (.tmp 78) (.tmp 79) 72 rfl keyed9 Tryd.underlying72 Tryd.underlying3 (zero3v _) rfl (unhide HM5) _ lb rfl (unhide HKY) ?_; rw [if_pos rfl]; dsimp only [Option.getD]))
                go_ret3
                rw [unhide HRT3]
                exact ⟨rfl, (unhide HCW4).trans (unhide HC5) (fun i hi h => by have h1 := unhide HB2w; have h2 := (unhide HCA).size; have : i = b2 := h; omega)⟩
            · have HSK := hide (p2_skip (unhide HLN2) (unhide HP2) (by rw [unhide HST, if_neg hbad]))
              have hb1_ : ¬ (1 : Int) < (sn : Int) + 1 := by omega
              have hb2_ : ¬ la < (k : Int) := by omega
              clear hbad
              go_wp2_with (first
                | (at_lookup; refine wpList_lookup_k1 rfl (.tmp 74) (.tmp 75) 72 rfl keyed9 Tryd.underlying72 Tryd.underlying3 (zero3v _) rfl (unhide HM4) _ lb rfl (unhide HKY) ?_; rw [unhide HG1])
                | (at_mapUpdate; refine wpList_update_k rfl (.tmp 74) (.tmp 75) (.tmp 77) 72 rfl skey_inj skey_lit keyed9 Tryd.underlying72 Tryd.underlying3 rfl (unhide HM4) hN2 _ lb ((sn : Int) + 1) rfl rfl (unhide HWF) (unhide HKY) ?_; intro w5 hm5 hc5; have HM5 := hide hm5; have HC5 := hide hc5; clear hm5 hc5)
                | (at_lookup; refine wpList_lookup_k1 rfl (.tmp 78) (.tmp 79) 72 rfl keyed9 Tryd.underlying72 Tryd.underlying3 (zero3v _) rfl (unhide HM5) _ lb rfl (unhide HKY) ?_; rw [if_pos rfl]; dsimp only [Option.getD]))
              go_roundw
              case rel =>
                refine ⟨k + 1, N2 + 1, _, by go_num, by omega, ?_, unhide HM5, by omega, fun s => ?_, (unhide HSK).1, (unhide HC4).trans' (unhide HC5)⟩
                · rw [(unhide HSK).2, unhide HCAME]
                  exact own_chg (unhide HO4) (unhide HC5) (fun j h1 h2 => by have h3 := ((unhide HO4).lt j h1).1; have h4 := unhide HB2; have : j = b2 := h2; omega)
                · rw [unhide HTK, unhide HS1 s]
                  by_cases hs : s = lb
                  · rw [if_pos hs, hs, if_pos ⟨rfl, rfl⟩, unhide HSN]; rfl
                  · rw [if_neg hs, if_neg (fun h => hs h.2.symm), Nat.add_zero]
                    exact unhide HFS s
              case measure => simp [intOf]; omega
          · -- it does something
            have HS1 := hide (fun s => seenN_snoc (LN.take k) ⟨3, lb, at_, ⟨io, ia, ib⟩⟩ s)
            have HKY := hide (key9 lb (unhide HLB))
            have hpl := (unhide HPLE) lb
            have HG1 := hide (show (f lb).getD 0 = ((placeP LN lb : Nat) : Int) from unhide HFP lb)
            have HST := hide (show stepOf LN (LN.take k) ⟨3, lb, at_, ⟨io, ia, ib⟩⟩ = (if goesB io then (if placeP LN lb = 0 then .bad else .put ⟨io, ((placeP LN lb - 1 : Nat) : Int), ib⟩) else .put ⟨io, ia, ib⟩) by
              rw [stepOf, if_neg (by simp), if_pos rfl])
            have HGO := hide (goes_any io w4)
            have HM14 := hide ((unhide HM1).chg (unhide HC4) (unhide HB12))
            obtain ⟨⟨u0, u1, u2⟩, v0, v1, v2⟩ := (unhide HBK).all3
            obtain ⟨pl, hplq⟩ : ∃ pl, placeP LN lb = pl := ⟨_, rfl⟩
            rw [hplq] at hpl HG1 HST
            clear hplq
            cases hg : goesB io with
            | false =>
              rw [hg] at HGO HST
              have HSK := hide (p2_put (unhide HLN2) (unhide HP2) (by rw [unhide HST, if_neg (by simp)]))
              clear hg
              have hm1 : V.length + 1 ≤ maxLen := by simp only [maxLen]; omega
              have hm2 : (V.length + 1) * 24 ≤ 140737488355328 := by omega
              have hb4 : wn.heap.size ≤ (w4.alloc (.cells (insv ⟨io, ia, ib⟩).toArray 42)).heap.size := ((unhide HC4).alloc (.cells (insv ⟨io, ia, ib⟩).toArray 42)).size
              have HRN := hide (fun W : World => (rd_new W W.heap.size 42 (insv ⟨io, ia, ib⟩) rfl).mono (T' := fun _ => True) (fun _ _ => trivial))
              have HON := hide (insv_one ⟨io, ia, ib⟩)
              go_wp2_with (first
                | (go_at_call 26; (with_reducible refine (unhide HGO).mono ?_); rintro e w5 ⟨rfl, rfl⟩)
                | (at_builtin; (refine wpList_append_rd _ rfl (.tmp 105) (.tmp 107) 22 rfl wn.heap.size 42 q_i (.agg #[.int .i64 0, .int .i64 0, .int .i64 0]) 3 24 Tryd.underlying22 q_hi q_hz q_hs q_hb rfl (by decide) _ V.length _ rfl ((unhide HO4).alloc _) (fun _ => True) (some ⟨w4.heap.size, 0, none⟩) 1 1 (insv ⟨io, ia, ib⟩) rfl rfl ((unhide HRN) w4) (unhide HON) hm1 hm2 hb4 ?_); intro v6 w6 ho_ hc_ hat_; (have HM6 := hide ((unhide HM4).alloc (.cells (insv ⟨io, ia, ib⟩).toArray 42) |>.chg hc_ (fun h => by have h1 := ((unhide HO4).lt b2 h).1; have h2 := unhide HB2; omega))); (have HO6 := hide ho_); (have HC6 := hide ((unhide HC4).trans (((Chg.refl (fun k => (Value.slice B V.length c5).ownBlock = some k) w4).alloc (.cells (insv ⟨io, ia, ib⟩).toArray 42)).trans hc_ (fun _ _ h => h)) (fun i hi e => by have := ((unhide HO4).lt i e).1; omega))); clear ho_ hc_ hat_))
              go_roundw
              case rel =>
                refine ⟨k + 1, N2, g, by go_num, by omega, ?_, unhide HM6, by omega, fun s => ?_, (unhide HSK).1, unhide HC6⟩
                · rw [(unhide HSK).2, unhide HCAME, List.length_append, List.flatMap_append, List.flatMap_singleton]
                  exact unhide HO6
                · rw [unhide HTK, unhide HS1 s, if_neg (by simp), Nat.add_zero]; exact unhide HFS s
              case measure => simp [intOf]; omega
            | true =>
              rw [hg] at HGO HST
              clear hg
              by_cases hp0 : pl = 0
              · have HRT3 := hide (show RT = .label k by rw [unhide HRT2, p2_bad (unhide HLN2) (unhide HP2) (by rw [unhide HST, if_pos rfl, if_pos hp0])]; rfl)
                have hpb : ((pl : Int) == 0) = true := beq_iff_eq.2 (by omega)
                clear hp0
                go_wp2_with (first
                  | (go_at_call 26; (with_reducible refine (unhide HGO).mono ?_); rintro e w5 ⟨rfl, rfl⟩)
                  | (at_lookup; refine wpList_lookup_k1 rfl (.tmp 95) (.tmp 96) 72 rfl keyed9 Tryd.underlying72 Tryd.underlying3 (zero3v _) rfl (unhide HM14) _ lb rfl (unhide HKY) ?_; rw [unhide HG1]))
                go_ret3
                rw [unhide HRT3]
                exact ⟨rfl, unhide HCW4⟩
              · have HSK := hide (p2_put (unhide HLN2) (unhide HP2) (by rw [unhide HST, if_pos rfl, if_neg hp0]))
                have hpb : ((pl : Int) == 0) = false := beq_eq_false_iff_ne.2 (by omega)
                have hpi : ((pl - 1 : Nat) : Int) = (pl : Int) - 1 := by omega
                have HPI := hide hpi
                clear hp0 hpi
                go_upto_region 34 with (first
                  | (go_at_call 26; (with_reducible refine (unhide HGO).mono ?_); rintro e w5 ⟨rfl, rfl⟩)
                  | (at_lookup; refine wpList_lookup_k1 rfl (.tmp 95) (.tmp 96) 72 rfl keyed9 Tryd.underlying72 Tryd.underlying3 (zero3v _) rfl (unhide HM14) _ lb rfl (unhide HKY) ?_; rw [unhide HG1])
                  | (at_lookup; refine wpList_lookup_k1 rfl (.tmp 100) (.tmp 101) 72 rfl keyed9 Tryd.underlying72 Tryd.underlying3 (zero3v _) rfl (unhide HM14) _ lb rfl (unhide HKY) ?_; rw [unhide HG1]))
                have hbs := (unhide HBK).set_ 1 (.int .i64 ((pl : Int) - 1))
                have hc5 : Chg (fun j => j = g20) w4 (w4.setCell ⟨g20, 1, none⟩ (.int .i64 ((pl : Int) - 1))) := Chg.setCell (S := fun j => j = g20) (Chg.refl _ w4) (p := ⟨g20, 1, none⟩) (fun _ => rfl) _
                generalize w4.setCell ⟨g20, 1, none⟩ (.int .i64 ((pl : Int) - 1)) = w5 at hbs hc5 ⊢
                have hbs2 : Blk w5 g20 42 #[.int .i64 io, .int .i64 ((pl : Int) - 1), .int .i64 ib] := hbs
                clear u0 u1 u2 v0 v1 v2
                obtain ⟨⟨u0, u1, u2⟩, v0, v1, v2⟩ := hbs2.all3
                have HO5_ := hide (own_chg (unhide HO4) hc5 (fun j h1 h2 => by have h3 := (unhide HRNG) j h1; have : j = g20 := h2; omega))
                have HM5_ := hide ((unhide HM4).chg hc5 (show ¬ b2 = g20 by have := unhide HB2; have := unhide HGN; omega))
                have HC5_ := hide ((unhide HC4).trans hc5 (fun i hi h => by have : i = g20 := h; have := unhide HGN; omega) (S := fun j => j = b2))
                clear hbs hc5 hbs2
                have hm1 : V.length + 1 ≤ maxLen := by simp only [maxLen]; omega
                have hm2 : (V.length + 1) * 24 ≤ 140737488355328 := by omega
                have hb4 : wn.heap.size ≤ (w5.alloc (.cells (insv ⟨io, (pl : Int) - 1, ib⟩).toArray 42)).heap.size := ((unhide HC5_).alloc (.cells (insv ⟨io, (pl : Int) - 1, ib⟩).toArray 42)).size
                have HRN := hide (fun W : World => (rd_new W W.heap.size 42 (insv ⟨io, (pl : Int) - 1, ib⟩) rfl).mono (T' := fun _ => True) (fun _ _ => trivial))
                have HON := hide (insv_one ⟨io, (pl : Int) - 1, ib⟩)
                have HM4 := HM5_
                go_wp2_with (first
                  | (at_builtin; (refine wpList_append_rd _ rfl (.tmp 105) (.tmp 107) 22 rfl wn.heap.size 42 q_i (.agg #[.int .i64 0, .int .i64 0, .int .i64 0]) 3 24 Tryd.underlying22 q_hi q_hz q_hs q_hb rfl (by decide) _ V.length _ rfl ((unhide HO5_).alloc _) (fun _ => True) (some ⟨w5.heap.size, 0, none⟩) 1 1 (insv ⟨io, (pl : Int) - 1, ib⟩) rfl rfl ((unhide HRN) w5) (unhide HON) hm1 hm2 hb4 ?_); intro v6 w6 ho_ hc_ hat_; (have HM6 := hide ((unhide HM4).alloc (.cells (insv ⟨io, (pl : Int) - 1, ib⟩).toArray 42) |>.chg hc_ (fun h => by have h1 := ((unhide HO5_).lt b2 h).1; have h2 := unhide HB2; omega))); (have HO6 := hide ho_); (have HC6 := hide ((unhide HC5_).trans (((Chg.refl (fun k => (Value.slice B V.length c5).ownBlock = some k) w5).alloc (.cells (insv ⟨io, (pl : Int) - 1, ib⟩).toArray 42)).trans hc_ (fun _ _ h => h)) (fun i hi e => by have := ((unhide HO5_).lt i e).1; omega))); clear ho_ hc_ hat_))
                go_roundw
                case rel =>
                  refine ⟨k + 1, N2, g, by go_num, by omega, ?_, unhide HM6, by omega, fun s => ?_, (unhide HSK).1, unhide HC6⟩
                  · rw [(unhide HSK).2, unhide HCAME, List.length_append, List.flatMap_append, List.flatMap_singleton, unhide HPI]
                    exact unhide HO6
                  · rw [unhide HTK, unhide HS1 s, if_neg (by simp), Nat.add_zero]; exact unhide HFS s
                case measure => simp [intOf]; omega
        · obtain rfl : k = LS.length := by omega
          have hki : ¬ (LS.length : Int) < (LS.length : Int) := by omega
          have HEND := hide (p2_end (by have := unhide HLL; omega) (unhide HP2))
          have HRT3 := hide (show RT = .ok (cameOf LN [] (LN.take LS.length)) by rw [unhide HRT2, unhide HEND]; rfl)
          have HCF := hide ((unhide HCA).trans' (unhide HCHA))
          have hlen2 : (cameOf LN [] (LN.take LS.length)).length ≤ 20000 := by omega
          generalize cameOf LN [] (LN.take LS.length) = V at *
          have hng : ¬ (20000 : Int) < (V.length : Int) := by omega
          have HWN := hide (show w.heap.size ≤ wn.heap.size from ((unhide HCA).trans' (unhide HCN)).size)
          clear hown hmap hfs hp2 hch hcw HEND
          go_wp2_with fail
          go_ret3
          rw [unhide HRT3]
          have hO := unhide HOW
          have hwn := unhide HWN
          exact ⟨⟨B, c5, rfl, (own_rd hO (by omega)).mono (fun j hj => by have := (hO.lt j hj).1; omega)⟩, unhide HCF⟩
end Go.Proofs.YtgonllogaiiicaaDoor
