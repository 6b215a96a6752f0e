/-
  Layer 19: something of how things stand ahead of each instruction: the walk.
-/
import Derived.Test.YtejkaalhjocmgaaDoorYe
namespace Go.Proofs.YtejkaalhjocmgaaDoor
open Go.RowKit
set_option maxHeartbeats 1000000
set_option maxRecDepth 100000
def TellOut (l : List Int) (w : World) (e : Ending) (w' : World) : Prop := ∃ v, e = .returned v ∧ RdI (fun k => w.heap.size ≤ k) w' v l ∧ Chg (fun _ => False) w w'
theorem ver_ok {m : Im} (h : verE m = 0) : imgE m = 0 ∧ Good conB m := by
  unfold verE at h
  split at h
  · rename_i hi
    split at h
    · rename_i hg
      exact ⟨hi, goodB_iff.1 hg⟩
    · cases h
  · rename_i hi
    exact absurd h hi
/-- What a place of the states holds, in any case. -/
theorem st_any {w : World} {b : Nat} {cs : Array Value} {l : List (Option PSt)} (h : AtRep (fun _ => True) w b cs l) {k : Nat} (hk : k < l.length) : ∃ (o : Option PSt) (p : PSt) (tA : Option Addr) (tn tc : Nat), l[k]? = some o ∧ (o = none ∨ o = some p) ∧ cs[k * 4]? = some (.int .i64 p.of) ∧ cs[k * 4 + 1]? = some (.int .i64 p.height) ∧ cs[k * 4 + 2]? = some (.slice tA tn tc) ∧ cs[k * 4 + 3]? = some (.bool o.isSome) := by
  have ho := List.getElem?_eq_getElem hk
  have hs := h.at_ k _ ho
  generalize l[k] = o at *
  cases o with
  | none => exact ⟨none, ⟨0, 0, []⟩, none, 0, 0, ho, .inl rfl, hs.1, hs.2.1, hs.2.2.1, hs.2.2.2⟩
  | some p =>
    obtain ⟨tv, h0, h1, h2, h3, h4⟩ := hs
    obtain ⟨tA, tc, rfl⟩ := h4.val
    exact ⟨some p, p, tA, p.tries.length, tc, ho, .inr rfl, h0, h1, h2, h3⟩
theorem info3' : (Tryd.prog.info? 3).map (fun i => (i.zero, i.size, i.bytes)) = some (some (.int .i64 0), 1, 8) := by kernel_rfl
theorem set_get {cur : Array Value} {n k : Nat} {x : Value} {val : Nat → Int} (hs : cur.size = n) (hk : k < n) (h : ∀ j, j < k → cur[j]? = some (intl (val j))) (hx : x = intl (val k)) : ∀ j, j < k + 1 → (cur.setIfInBounds k x)[j]? = some (intl (val j)) := by
  intro j hj
  rw [Array.getElem?_setIfInBounds]
  split
  · rename_i e
    subst e
    rw [if_pos (by omega), hx]
  · exact h j (by omega)
theorem dep_none {m : Im} {C : PC} (h : ∀ (k : Nat) (s : RSt), Reach conB m k s ↔ ∃ p, C.at_[k]? = some (some p) ∧ lift C.has p = s) {k : Nat} (hk : C.at_[k]? = some none) : depAt m k = -1 := by
  refine depAt_none (fun ⟨s, hs⟩ => ?_)
  obtain ⟨p, h1, _⟩ := (h k s).1 hs
  rw [hk] at h1
  injection h1 with h1
  cases h1
theorem dep_some {m : Im} {C : PC} (hg : Good conB m) (h : ∀ (k : Nat) (s : RSt), Reach conB m k s ↔ ∃ p, C.at_[k]? = some (some p) ∧ lift C.has p = s) {k : Nat} {p : PSt} (hk : C.at_[k]? = some (some p)) : depAt m k = p.height :=
  (depAt_some hg ((h k _).2 ⟨p, hk, rfl⟩)).trans rfl
theorem dep_tell (m : Im) (pA cA : Option Addr) (pc cc : Nat) (T T2 : Nat → Prop) (w : World) (hp : Rd T w pA (m.pool.flatMap cstv)) (hc : Rd T2 w cA (m.code.flatMap insv)) (hn : m.code.length ≤ 900) (pn : m.pool.length ≤ 100000) (px : ∀ x ∈ m.pool, x.text.size ≤ 9223372036854775807) (lay : Lay w) :
    Calls Tryd.prog 19 #[.agg #[.slice pA m.pool.length pc, .slice cA m.code.length cc], .func (.func 20) #[] #[]] w fun e w' => TellOut (depL m) w e w' := by
  have b1 := Blk.new w 25 #[.slice pA m.pool.length pc, .slice cA m.code.length cc]
  have c1 := (Chg.refl (fun _ => False) w).alloc (.cells #[.slice pA m.pool.length pc, .slice cA m.code.length cc] 25)
  have HV := hide (fun W (hW : Chg (fun _ => False) w W) => verify_any m pA cA pc cc T T2 W (hp.chg hW (fun _ _ _ => id)) (hc.chg hW (fun _ _ _ => id)) hn pn px (lay.chg hW (fun _ _ => id)))
  have HE := hide (show depL m = if verE m = 0 then (List.range m.code.length).map (depAt m) else [] from rfl)
  generalize depL m = E at *
  have HB := hide b1
  have HC1 := hide c1
  have x0 := b1.cell 0
  have x1 := b1.cell 1
  simp only [List.getElem?_toArray, List.getElem?_cons_zero, List.getElem?_cons_succ] at x0 x1
  clear b1 c1
  by_cases hv : verE m = 0
  · obtain ⟨hi, hg⟩ := ver_ok hv
    have HY := hide (fun W (hW : Chg (fun _ => False) w W) => (check_any m pA cA pc cc T T2 W (hp.chg hW (fun _ _ _ => id)) (hc.chg hW (fun _ _ _ => id)) (codeOk_of (imgE_code hi)) hn pn px (lay.chg hW (fun _ _ => id))).mono (fun e w' h => h.yes hg))
    rw [hv] at HV HE
    have HE2 := hide (show E = (List.range m.code.length).map (depAt m) from (unhide HE))
    have HG := hide hg
    clear hg hi hv hp hc px lay HE
    generalize hnn : m.code.length = n at *
    obtain ⟨i0_, hi0, hz0, hz1, hz2⟩ := info_parts info3'
    have hmk : ∀ W, (Instr.makeSlice 30 (.int .i64 (n : Int)) (.int .i64 (n : Int))).run Tryd.prog W = .ok (.slice (some ⟨W.heap.size, 0, none⟩) n n) (W.alloc (.cells (madeCells #[.int .i64 0] n) 3)) := fun W => by
      have := run_make (P := Tryd.prog) W 30 3 i0_ _ Tryd.underlying30 hi0 hz0 .i64 .i64 n n (by omega) (Int.le_refl _) (by rw [hz2]; omega) (by omega)
      simp only [Int.toNat_natCast, hz1, Nat.mul_one] at this
      exact this
    have HZS := hide (size_madeCells #[.int .i64 0] n)
    generalize hzc : madeCells #[.int .i64 0] n = zc at *
    have HN := hide hnn
    clear hzc hi0 hz0 hz1 hz2 hnn
    go_enter Tryd.func19, Tryd.ntmps19
    go_wp2_with (first
      | (go_at_call 13; refine (unhide HV _ (unhide HC1)).mono ?_; rintro e w2 ⟨rfl, hch⟩; have hc2 := (unhide HC1).trans' hch; have hb2 := (unhide HB).chg hch id; have y0 := hb2.cell 0; have y1 := hb2.cell 1; simp only [List.getElem?_toArray, List.getElem?_cons_zero, List.getElem?_cons_succ] at y0 y1; have HC2 := hide hc2; clear hch hc2 hb2)
      | (go_at_call 23; refine (unhide HY _ (unhide HC2)).mono ?_; rintro e w3 ⟨b, cs, C, rfl, hbz, hch, hats, hal, hbd, hre⟩; rw [unhide HN]; have HC3 := hide ((unhide HC2).trans' hch); have HATS := hide hats; have hal2 := hal.trans (unhide HN); have HAL := hide hal2; have HBD := hide hbd; have HRE := hide hre; have hb3 := hats.blk.lt; clear hch hats hal hal2 hbd hre))
    go_loopw [23] (fun i wr => ∃ (k : Nat) (cur : Array Value), i = .int .i64 k ∧ k ≤ n ∧ Chg (fun t => w3.heap.size ≤ t) w3 wr ∧ Blk wr w3.heap.size 3 cur ∧ cur.size = n ∧ ∀ j, j < k → cur[j]? = some (intl (depAt m j))) (fun i _ => n - (intOf i).toNat)
    case atStart => exact ⟨0, zc, rfl, Nat.zero_le _, (Chg.refl _ w3).alloc _, Blk.new _ _ _, unhide HZS, fun j hj => absurd hj (by omega)⟩
    case round =>
      obtain ⟨wq, rfl⟩ : ∃ wq : World, wq = wr := ⟨_, rfl⟩
      obtain ⟨k, cur, rfl, hk, hch, hbk, hcs, hcv⟩ := hrel
      have hdl := hbk.lt
      by_cases hlt : k < n
      · obtain ⟨o, p, tA, tn, tc, ho, hop, q0, q1, q2, q3⟩ := st_any (unhide HATS) (k := k) (by rw [unhide HAL]; exact hlt)
        have hbb := (unhide HATS).blk.chg hch (by omega)
        have y0 := hbb.cell' q0
        have y1 := hbb.cell' q1
        have y2 := hbb.cell' q2
        have y3 := hbb.cell' q3
        have hbl := hbb.lt
        have hnd : b ≠ w3.heap.size := by omega
        have hbs := (unhide HATS).sz
        have z0 := hbk.frozen k
        have z1 := hbk.cell k
        obtain ⟨old, hck⟩ : ∃ old, cur[k]? = some old := ⟨_, Array.getElem?_eq_getElem (by omega)⟩
        rw [hck] at z1
        have HCH := hide hch
        have HBK := hide hbk
        have HCS := hide hcs
        have HCV := hide hcv
        have hF := fun W => dep_clo p (.slice tA tn tc) true W
        have HF := hide hF
        clear q0 q1 q2 q3 hbb hch hbk hcs hcv hck hbs hF
        rcases hop with rfl | rfl
        · have hv0 := dep_none (unhide HRE) ho
          have HV2 := hide hv0
          clear hv0 ho
          go_wp2_with fail
          go_roundw
          case rel =>
            refine ⟨k + 1, cur.setIfInBounds k (.int .i64 (-1)), by go_num, by omega, ?_, ?_, by rw [Array.size_setIfInBounds]; exact unhide HCS, set_get (unhide HCS) hlt (unhide HCV) (by rw [unhide HV2]; rfl)⟩
            · exact ((unhide HCH).setCell (fun _ => Nat.le_refl _) _).alloc _
            · exact ((unhide HBK).set_ _ _).alloc _
          case measure => simp [intOf]; omega
        · have hv0 := dep_some (unhide HG) (unhide HRE) ho
          have HV2 := hide hv0
          have HSK := hide (show (cur.setIfInBounds k (.int .i64 (-1)))[k]? = some (.int .i64 (-1)) by rw [Array.getElem?_setIfInBounds, if_pos rfl, if_pos (by rw [unhide HCS]; exact hlt)])
          clear hv0 ho
          go_wp2_with (first | (go_at_call 20; refine (unhide HF _).mono ?_; rintro e w5 ⟨rfl, hch5⟩; have HC5 := hide hch5; have hb5 := ((((unhide HBK).set_ k (.int .i64 (-1))).alloc _).chg hch5 id); have u1 := hb5.cell' (unhide HSK); have u2 := hb5.frozen k; have HB5 := hide hb5; clear hch5 hb5))
          go_roundw
          case rel =>
            refine ⟨k + 1, (cur.setIfInBounds k (.int .i64 (-1))).setIfInBounds k (.int .i64 p.height), by go_num, by omega, ?_, ?_, by rw [Array.size_setIfInBounds, Array.size_setIfInBounds]; exact unhide HCS, set_get (by rw [Array.size_setIfInBounds]; exact unhide HCS) hlt (fun j hj => ?_) (by rw [unhide HV2]; rfl)⟩
            · exact ((((unhide HCH).setCell (fun _ => Nat.le_refl _) _).alloc _).trans (unhide HC5) (fun _ _ h => h.elim)).setCell (fun _ => Nat.le_refl _) _
            · exact (unhide HB5).set_ _ _
            · rw [Array.getElem?_setIfInBounds, if_neg (by omega)]
              exact unhide HCV j hj
          case measure => simp [intOf]; omega
      · obtain rfl : k = n := by omega
        have HCH := hide hch
        have HBK := hide hbk
        have HCS := hide hcs
        have HCV := hide hcv
        clear hch hbk hcs hcv
        go_wp2_with fail
        go_ret
        refine ⟨_, rfl, ?_, (unhide HC3).trans (unhide HCH) (fun i hi e => by have := (unhide HC3).size; omega)⟩
        rw [unhide HE2]
        refine ⟨some ⟨w3.heap.size, 0, none⟩, k, by rw [List.length_map, List.length_range]; rfl, (Rd.blk (unhide HBK) (fun j u hj => ?_)).mono (fun t ht => ?_)⟩
        · rw [List.map_map, List.getElem?_map] at hj
          by_cases hjk : j < k
          · rw [List.getElem?_range hjk] at hj
            injection hj with hj
            rw [← hj]
            exact unhide HCV j hjk
          · rw [List.getElem?_eq_none (by rw [List.length_range]; omega)] at hj
            cases hj
        · have := (unhide HC3).size
          have ht2 : t = w3.heap.size := ht
          omega
  · have HE2 := hide (show E = [] by rw [unhide HE, if_neg hv])
    have hne : (verE m != 0) = true := by rw [bne_iff_ne]; exact hv
    clear hv hp hc px lay
    generalize verE m = F at *
    go_enter Tryd.func19, Tryd.ntmps19
    go_wp2_with (first
      | (go_at_call 13; refine (unhide HV _ (unhide HC1)).mono ?_; rintro e w2 ⟨rfl, hch⟩; have HC2 := hide ((unhide HC1).trans' hch); clear hch))
    go_ret
    exact ⟨_, rfl, by rw [unhide HE2]; exact RdI.nil_ _ _, unhide HC2⟩
theorem own_none {m : Im} {C : PC} (h : ∀ (k : Nat) (s : RSt), Reach conB m k s ↔ ∃ p, C.at_[k]? = some (some p) ∧ lift C.has p = s) {k : Nat} (hk : C.at_[k]? = some none) : ownAt m k = -1 := by
  refine ownAt_none (fun ⟨s, hs⟩ => ?_)
  obtain ⟨p, h1, _⟩ := (h k s).1 hs
  rw [hk] at h1
  injection h1 with h1
  cases h1
theorem own_some {m : Im} {C : PC} (hg : Good conB m) (h : ∀ (k : Nat) (s : RSt), Reach conB m k s ↔ ∃ p, C.at_[k]? = some (some p) ∧ lift C.has p = s) {k : Nat} {p : PSt} (hk : C.at_[k]? = some (some p)) : ownAt m k = p.of :=
  (ownAt_some hg ((h k _).2 ⟨p, hk, rfl⟩)).trans rfl
theorem own_tell (m : Im) (pA cA : Option Addr) (pc cc : Nat) (T T2 : Nat → Prop) (w : World) (hp : Rd T w pA (m.pool.flatMap cstv)) (hc : Rd T2 w cA (m.code.flatMap insv)) (hn : m.code.length ≤ 900) (pn : m.pool.length ≤ 100000) (px : ∀ x ∈ m.pool, x.text.size ≤ 9223372036854775807) (lay : Lay w) :
    Calls Tryd.prog 19 #[.agg #[.slice pA m.pool.length pc, .slice cA m.code.length cc], .func (.func 21) #[] #[]] w fun e w' => TellOut (ownL m) w e w' := by
  have b1 := Blk.new w 25 #[.slice pA m.pool.length pc, .slice cA m.code.length cc]
  have c1 := (Chg.refl (fun _ => False) w).alloc (.cells #[.slice pA m.pool.length pc, .slice cA m.code.length cc] 25)
  have HV := hide (fun W (hW : Chg (fun _ => False) w W) => verify_any m pA cA pc cc T T2 W (hp.chg hW (fun _ _ _ => id)) (hc.chg hW (fun _ _ _ => id)) hn pn px (lay.chg hW (fun _ _ => id)))
  have HE := hide (show ownL m = if verE m = 0 then (List.range m.code.length).map (ownAt m) else [] from rfl)
  generalize ownL m = E at *
  have HB := hide b1
  have HC1 := hide c1
  have x0 := b1.cell 0
  have x1 := b1.cell 1
  simp only [List.getElem?_toArray, List.getElem?_cons_zero, List.getElem?_cons_succ] at x0 x1
  clear b1 c1
  by_cases hv : verE m = 0
  · obtain ⟨hi, hg⟩ := ver_ok hv
    have HY := hide (fun W (hW : Chg (fun _ => False) w W) => (check_any m pA cA pc cc T T2 W (hp.chg hW (fun _ _ _ => id)) (hc.chg hW (fun _ _ _ => id)) (codeOk_of (imgE_code hi)) hn pn px (lay.chg hW (fun _ _ => id))).mono (fun e w' h => h.yes hg))
    rw [hv] at HV HE
    have HE2 := hide (show E = (List.range m.code.length).map (ownAt m) from (unhide HE))
    have HG := hide hg
    clear hg hi hv hp hc px lay HE
    generalize hnn : m.code.length = n at *
    obtain ⟨i0_, hi0, hz0, hz1, hz2⟩ := info_parts info3'
    have hmk : ∀ W, (Instr.makeSlice 30 (.int .i64 (n : Int)) (.int .i64 (n : Int))).run Tryd.prog W = .ok (.slice (some ⟨W.heap.size, 0, none⟩) n n) (W.alloc (.cells (madeCells #[.int .i64 0] n) 3)) := fun W => by
      have := run_make (P := Tryd.prog) W 30 3 i0_ _ Tryd.underlying30 hi0 hz0 .i64 .i64 n n (by omega) (Int.le_refl _) (by rw [hz2]; omega) (by omega)
      simp only [Int.toNat_natCast, hz1, Nat.mul_one] at this
      exact this
    have HZS := hide (size_madeCells #[.int .i64 0] n)
    generalize hzc : madeCells #[.int .i64 0] n = zc at *
    have HN := hide hnn
    clear hzc hi0 hz0 hz1 hz2 hnn
    go_enter Tryd.func19, Tryd.ntmps19
    go_wp2_with (first
      | (go_at_call 13; refine (unhide HV _ (unhide HC1)).mono ?_; rintro e w2 ⟨rfl, hch⟩; have hc2 := (unhide HC1).trans' hch; have hb2 := (unhide HB).chg hch id; have y0 := hb2.cell 0; have y1 := hb2.cell 1; simp only [List.getElem?_toArray, List.getElem?_cons_zero, List.getElem?_cons_succ] at y0 y1; have HC2 := hide hc2; clear hch hc2 hb2)
      | (go_at_call 23; refine (unhide HY _ (unhide HC2)).mono ?_; rintro e w3 ⟨b, cs, C, rfl, hbz, hch, hats, hal, hbd, hre⟩; rw [unhide HN]; have HC3 := hide ((unhide HC2).trans' hch); have HATS := hide hats; have hal2 := hal.trans (unhide HN); have HAL := hide hal2; have HBD := hide hbd; have HRE := hide hre; have hb3 := hats.blk.lt; clear hch hats hal hal2 hbd hre))
    go_loopw [23] (fun i wr => ∃ (k : Nat) (cur : Array Value), i = .int .i64 k ∧ k ≤ n ∧ Chg (fun t => w3.heap.size ≤ t) w3 wr ∧ Blk wr w3.heap.size 3 cur ∧ cur.size = n ∧ ∀ j, j < k → cur[j]? = some (intl (ownAt m j))) (fun i _ => n - (intOf i).toNat)
    case atStart => exact ⟨0, zc, rfl, Nat.zero_le _, (Chg.refl _ w3).alloc _, Blk.new _ _ _, unhide HZS, fun j hj => absurd hj (by omega)⟩
    case round =>
      obtain ⟨wq, rfl⟩ : ∃ wq : World, wq = wr := ⟨_, rfl⟩
      obtain ⟨k, cur, rfl, hk, hch, hbk, hcs, hcv⟩ := hrel
      have hdl := hbk.lt
      by_cases hlt : k < n
      · obtain ⟨o, p, tA, tn, tc, ho, hop, q0, q1, q2, q3⟩ := st_any (unhide HATS) (k := k) (by rw [unhide HAL]; exact hlt)
        have hbb := (unhide HATS).blk.chg hch (by omega)
        have y0 := hbb.cell' q0
        have y1 := hbb.cell' q1
        have y2 := hbb.cell' q2
        have y3 := hbb.cell' q3
        have hbl := hbb.lt
        have hnd : b ≠ w3.heap.size := by omega
        have hbs := (unhide HATS).sz
        have z0 := hbk.frozen k
        have z1 := hbk.cell k
        obtain ⟨old, hck⟩ : ∃ old, cur[k]? = some old := ⟨_, Array.getElem?_eq_getElem (by omega)⟩
        rw [hck] at z1
        have HCH := hide hch
        have HBK := hide hbk
        have HCS := hide hcs
        have HCV := hide hcv
        have hF := fun W => own_clo p (.slice tA tn tc) true W
        have HF := hide hF
        clear q0 q1 q2 q3 hbb hch hbk hcs hcv hck hbs hF
        rcases hop with rfl | rfl
        · have hv0 := own_none (unhide HRE) ho
          have HV2 := hide hv0
          clear hv0 ho
          go_wp2_with fail
          go_roundw
          case rel =>
            refine ⟨k + 1, cur.setIfInBounds k (.int .i64 (-1)), by go_num, by omega, ?_, ?_, by rw [Array.size_setIfInBounds]; exact unhide HCS, set_get (unhide HCS) hlt (unhide HCV) (by rw [unhide HV2]; rfl)⟩
            · exact ((unhide HCH).setCell (fun _ => Nat.le_refl _) _).alloc _
            · exact ((unhide HBK).set_ _ _).alloc _
          case measure => simp [intOf]; omega
        · have hv0 := own_some (unhide HG) (unhide HRE) ho
          have HV2 := hide hv0
          have HSK := hide (show (cur.setIfInBounds k (.int .i64 (-1)))[k]? = some (.int .i64 (-1)) by rw [Array.getElem?_setIfInBounds, if_pos rfl, if_pos (by rw [unhide HCS]; exact hlt)])
          clear hv0 ho
          go_wp2_with (first | (go_at_call 21; refine (unhide HF _).mono ?_; rintro e w5 ⟨rfl, hch5⟩; have HC5 := hide hch5; have hb5 := ((((unhide HBK).set_ k (.int .i64 (-1))).alloc _).chg hch5 id); have u1 := hb5.cell' (unhide HSK); have u2 := hb5.frozen k; have HB5 := hide hb5; clear hch5 hb5))
          go_roundw
          case rel =>
            refine ⟨k + 1, (cur.setIfInBounds k (.int .i64 (-1))).setIfInBounds k (.int .i64 p.of), by go_num, by omega, ?_, ?_, by rw [Array.size_setIfInBounds, Array.size_setIfInBounds]; exact unhide HCS, set_get (by rw [Array.size_setIfInBounds]; exact unhide HCS) hlt (fun j hj => ?_) (by rw [unhide HV2]; rfl)⟩
            · exact ((((unhide HCH).setCell (fun _ => Nat.le_refl _) _).alloc _).trans (unhide HC5) (fun _ _ h => h.elim)).setCell (fun _ => Nat.le_refl _) _
            · exact (unhide HB5).set_ _ _
            · rw [Array.getElem?_setIfInBounds, if_neg (by omega)]
              exact unhide HCV j hj
          case measure => simp [intOf]; omega
      · obtain rfl : k = n := by omega
        have HCH := hide hch
        have HBK := hide hbk
        have HCS := hide hcs
        have HCV := hide hcv
        clear hch hbk hcs hcv
        go_wp2_with fail
        go_ret
        refine ⟨_, rfl, ?_, (unhide HC3).trans (unhide HCH) (fun i hi e => by have := (unhide HC3).size; omega)⟩
        rw [unhide HE2]
        refine ⟨some ⟨w3.heap.size, 0, none⟩, k, by rw [List.length_map, List.length_range]; rfl, (Rd.blk (unhide HBK) (fun j u hj => ?_)).mono (fun t ht => ?_)⟩
        · rw [List.map_map, List.getElem?_map] at hj
          by_cases hjk : j < k
          · rw [List.getElem?_range hjk] at hj
            injection hj with hj
            rw [← hj]
            exact unhide HCV j hjk
          · rw [List.getElem?_eq_none (by rw [List.length_range]; omega)] at hj
            cases hj
        · have := (unhide HC3).size
          have ht2 : t = w3.heap.size := ht
          omega
  · have HE2 := hide (show E = [] by rw [unhide HE, if_neg hv])
    have hne : (verE m != 0) = true := by rw [bne_iff_ne]; exact hv
    clear hv hp hc px lay
    generalize verE m = F at *
    go_enter Tryd.func19, Tryd.ntmps19
    go_wp2_with (first
      | (go_at_call 13; refine (unhide HV _ (unhide HC1)).mono ?_; rintro e w2 ⟨rfl, hch⟩; have HC2 := hide ((unhide HC1).trans' hch); clear hch))
    go_ret
    exact ⟨_, rfl, by rw [unhide HE2]; exact RdI.nil_ _ _, unhide HC2⟩
end Go.Proofs.YtejkaalhjocmgaaDoor
