/-
  Layer 17: text.read: what a line is that does something.
-/
import Derived.Test.YtgonllogaiiicaaDoorWj
namespace Go.Proofs.YtgonllogaiiicaaDoor
open Go.RowKit
set_option maxHeartbeats 4000000
set_option maxRecDepth 100000
theorem Rd.low {T : Nat → Prop} {w : World} {A : Option Addr} {xs : List Value} (h : Rd T w A xs) : Rd (fun b => b < w.heap.size) w A xs := by
  intro hn
  obtain ⟨ad, e, hT, hc⟩ := h hn
  refine ⟨ad, e, ?_, hc⟩
  cases xs with
  | nil => exact absurd rfl hn
  | cons x xs =>
    have := block_lt_of_cell (hc 0 x rfl)
    rw [block_of_add] at this
    exact this
def nP (rs : List Bs) : List Int := rs.map fun x => ((numP x).1 : Int)
theorem nP_snoc {rs : List Bs} {k : Nat} {x : Bs} (h : rs[k]? = some x) : nP (rs.take (k + 1)) = nP (rs.take k) ++ [((numP x).1 : Int)] := by
  unfold nP
  rw [take_snoc' h, List.map_append]
  rfl
theorem nP_some {ws : List (Bs × Nat)} (h : ∀ x ∈ ws.map Prod.fst, (numP x).2 = true) : ∃ l, numsW ws = some l ∧ nP (ws.map Prod.fst) = l.map fun n : Nat => (n : Int) := by
  obtain ⟨l, h1, h2⟩ := nvals_some (ws := ws) (fun x hx => by
    rw [numB_P, if_pos (h x.1 (List.mem_map_of_mem hx))]
    exact Option.some_ne_none _)
  refine ⟨l, h1, ?_⟩
  rw [← h2]
  unfold nP nvals
  rw [List.map_map]
  refine List.map_congr_left fun x hx => ?_
  simp only [Function.comp]
  rw [numB_P, if_pos (h x.1 (List.mem_map_of_mem hx))]
theorem nP_none {ws : List (Bs × Nat)} {x : Bs} (h : x ∈ ws.map Prod.fst) (hx : (numP x).2 = false) : numsW ws = none := by
  obtain ⟨y, hy, rfl⟩ := List.mem_map.1 h
  exact numsW_none hy (by rw [numB_P, if_neg (by simp [hx])])
theorem nP_len (rs : List Bs) : (nP rs).length = rs.length := by unfold nP; rw [List.length_map]
theorem getD_map_nat (L : List Nat) (j : Nat) : (L.map fun n : Nat => (n : Int)).getD j 0 = ((L.getD j 0 : Nat) : Int) := by
  rw [List.getD_eq_getElem?_getD, List.getD_eq_getElem?_getD, List.getElem?_map]
  cases L[j]? <;> rfl
theorem numbers_of (o : Nat) (n : Nat) (h : numsN (o : Int) = n) (w : World) (hl : Lay w) : Calls Tryd.prog 30 #[.int .i64 (o : Int)] w fun e w' => e = .returned (.int .i64 (n : Int)) ∧ w = w' := by
  have := numbers_any (o : Int) w hl
  rw [numI_eq, h] at this
  exact this
theorem Blk.all2 {W : World} {g : Nat} {t : TypeId} {a0 a1 : Value} (h : Blk W g t #[a0, a1]) :
    (W.cell? ⟨g, 0, none⟩ = some a0 ∧ W.cell? ⟨g, 1, none⟩ = some a1) ∧ W.frozen? ⟨g, 0, none⟩ = false ∧ W.frozen? ⟨g, 1, none⟩ = false :=
  ⟨⟨h.cell 0, h.cell 1⟩, h.frozen 0, h.frozen 1⟩
theorem read_does (s : ByteArray) (w : World) (hl : Lay w) (hs : s.size ≤ 100000000) (s0 : Bs) (p0 : Nat) (rest : List (Bs × Nat)) (hw : wordsL s.data.toList = (s0, p0) :: rest) (hc : s0.getLast? ≠ some 58) :
    Calls Tryd.prog 41 #[.string s] w fun e w' => e = .returned (rdV (readL s.data.toList)) ∧ Chg (fun _ => False) w w' := by
  have hx : readL s.data.toList = match findOp s0 with
    | none => wrongL
    | some o => opW o rest := by unfold readL; rw [hw]; exact if_neg hc
  have hwl := wordsL_len s.data.toList
  have hsl : s.data.toList.length = s.size := rfl
  obtain ⟨hm1, hm2, hm3⟩ : s0 ≠ [] ∧ s0.length ≤ s.size ∧ p0 ≤ s.size := wordsL_mem (s := s.data.toList) (x := (s0, p0)) (by rw [hw]; simp)
  have hml : ∀ x ∈ rest.map Prod.fst, x.length ≤ 1000000000 := by
    intro x hx
    obtain ⟨y, hy, rfl⟩ := List.mem_map.1 hx
    obtain ⟨_, h2, _⟩ := wordsL_mem (s := s.data.toList) (x := y) (by rw [hw]; simp [hy])
    omega
  have hc0 := (Chg.refl (fun _ => False) w).alloc (.cells zero3 42)
  have HW := hide (words_row s (w.alloc (.cells zero3 42)) (hl.chg hc0 (fun _ _ => id)) (by omega))
  rw [words_fst hw] at HW
  rw [hw, List.length_cons] at hwl
  have hrl0 : (rest.map Prod.fst).length ≤ 100000000 := by rw [List.length_map]; omega
  have HC0 := hide hc0
  have hSX := fun W => suffix_bs s0 (by omega) W
  rw [if_neg hc, show decide (s0.getLast? = some 58) = false from decide_eq_false hc] at hSX
  have HSX := hide hSX
  have HFI := hide (fun W (hW : Chg (fun _ => False) w W) => opFind_any s0 W (hl.chg hW (fun _ _ => id)))
  have HLW := hide (fun W (hW : Chg (fun _ => False) w W) => hl.chg hW (fun _ _ => id))
  obtain ⟨rs, hrs⟩ : ∃ rs, rest.map Prod.fst = rs := ⟨_, rfl⟩
  rw [hrs] at HW hml hrl0
  have HRS := hide hrs
  have HML := hide hml
  have HFL := hide (fun o h => findOp_le (s := s0) (o := o) h)
  clear hl hc0 hSX hw hc hm1 hrs hwl hsl
  generalize readL s.data.toList = R at *
  unfold opIx at HFI
  have hbb : ((rs.length : Int) + 1 == 0) = false := beq_eq_false_iff_ne.2 (by omega)
  cases hfo : findOp s0 with
  | none =>
    rw [hfo] at hx HFI
    have hR : R = wrongL := hx
    have HF1 := hide (fun W hW => show Calls Tryd.prog 59 #[.string ⟨s0.toArray⟩] W fun e w' => e = .returned (.tuple #[.int .i64 0, .bool false]) ∧ W = w' from unhide HFI W hW)
    rw [hR]
    clear hx hR hfo HFI HFL
    go_enter Tryd.func41, Tryd.ntmps41
    go_wp2_with (first
      | (go_at_call 47; (refine (unhide HW).mono ?_); rintro e w2 ⟨A, c, rfl, hcc, hr, hc2⟩; have HC2 := hide hc2; have HK := hide ((Blk.new w 42 zero3).chg hc2 id); (obtain ⟨⟨y0, y1, y2⟩, z0, z1, z2⟩ := (unhide HK).all3); (obtain ⟨b, o, rfl, hT, k0⟩ := row_head hr); have HR := hide hr; have HCC := hide hcc; have HC20 := hide ((unhide HC0).trans' (unhide HC2)); clear hr hc2 hcc hT)
      | (go_at_call 57; (with_reducible refine (unhide HSX _).mono ?_); rintro e w3 ⟨rfl, rfl⟩)
      | (go_at_call 59; (refine (unhide HF1 _ (unhide HC20)).mono ?_); rintro e w3 ⟨rfl, rfl⟩))
    exact bodyPost_ret (read_res (put3_blk (unhide HK) _ _ _) _ _ _ rfl rfl rfl) rfl ⟨rfl, put3_chg ((unhide HC0).trans' (unhide HC2)) (Nat.le_refl _) _ _ _⟩
  | some op =>
    have ho20 := (unhide HFL) op hfo
    rw [hfo] at hx HFI
    have hR : R = opW op rest := hx
    have HF1 := hide (fun W hW => show Calls Tryd.prog 59 #[.string ⟨s0.toArray⟩] W fun e w' => e = .returned (.tuple #[.int .i64 (op : Int), .bool true]) ∧ W = w' from unhide HFI W hW)
    rw [hR]
    clear hx hR hfo HFI HFL
    go_enter Tryd.func41, Tryd.ntmps41
    go_upto_region 12 with (first
      | (go_at_call 47; (refine (unhide HW).mono ?_); rintro e w2 ⟨A, c, rfl, hcc, hr, hc2⟩; have HC2 := hide hc2; have HK := hide ((Blk.new w 42 zero3).chg hc2 id); (obtain ⟨⟨y0, y1, y2⟩, z0, z1, z2⟩ := (unhide HK).all3); (obtain ⟨b, o, rfl, hT, k0⟩ := row_head hr); have HR := hide hr; have HCC := hide hcc; have HC20 := hide ((unhide HC0).trans' (unhide HC2)); clear hr hc2 hcc hT)
      | (go_at_call 57; (with_reducible refine (unhide HSX _).mono ?_); rintro e w3 ⟨rfl, rfl⟩)
      | (go_at_call 59; (refine (unhide HF1 _ (unhide HC20)).mono ?_); rintro e w3 ⟨rfl, rfl⟩))
    have hccn : rs.length + 1 ≤ c := unhide HCC
    refine r41_12 _ _ _ _ _ _ _ _ _ _ _ _ _ _ _ _ _ _ _ _ _ _ _ _ _ _ _ _ _ _ _ _ _ _ _ _ _ _ _ _ _ _ _ _ _ _ _ _ _ _ _ _ _ _ _ _ _ _ _ _ _ _ _ _ _ _ _ _ _ _ _ _ _ _ _ _ _ _ _ _ _ _ _ _ _ _ _ _ _ _ _ _ _ _ _ _ _ _ _ _ _ _ _ _ _ _ _ _ _ w2 b o (rs.length + 1) c (by omega) hccn (by omega) (by omega) (by omega) _ ?_
    intro y52
    rw [Nat.add_sub_cancel]
    have hTL := (row_tail (unhide HR) hccn).low
    generalize (if c = 1 then some (⟨b, o, none⟩ : Addr) else some ⟨b, o + 1, none⟩) = A1 at *
    obtain ⟨c1, hc1⟩ : ∃ c1, c - 1 = c1 := ⟨_, rfl⟩
    rw [hc1]
    have hc1n : rs.length ≤ c1 := by omega
    have hk := (unhide HK).drew
    have hct := (unhide HC20).drew
    have hrd : Rd (fun b => b < w2.drew.heap.size) w2.drew A1 (rs.map bv) := hTL
    have hly := fun W (hW : Chg (fun _ => False) w2.drew W) => unhide HLW W (hct.trans' hW)
    generalize w2.drew = wt at hk hct hrd hly ⊢
    clear HK y0 y1 y2 z0 z1 z2 k0 HR HCC hTL HC2 HC20 HC0 HF1 HSX hc1
    have HK := hide hk
    have HCT := hide hct
    have HRD := hide hrd
    have HLY := hide hly
    clear hk hct hrd hly hccn HLW
    have HGO := hide (goes_any (op : Int) wt)
    cases hg : goesB (op : Int) with
    | false =>
      rw [hg] at HGO
      have HOPW := hide (show opW op rest = doesW op [] 0 rest by unfold opW; rw [if_neg (by simp [hg])])
      have HGB := hide hg
      clear hg
      go_upto_region 17 with (go_at_call 26; (with_reducible refine (unhide HGO).mono ?_); rintro e w4 ⟨rfl, rfl⟩)
      have hnl := numsN_le (op : Int)
      (obtain ⟨⟨y0, y1, y2⟩, z0, z1, z2⟩ := (unhide HK).all3)
      by_cases hlen : rest.length = numsN (op : Int)
      · obtain ⟨m, hm⟩ : ∃ m, numsN (op : Int) = m := ⟨_, rfl⟩
        rw [hm] at hlen hnl
        have hrl2 : rs.length = m := by rw [← unhide HRS, List.length_map, hlen]
        have HN1 := hide (fun W (hW : Chg (fun _ => False) wt W) => numbers_of op m hm W (unhide HLY _ hW))
        have HDW := hide (fun (L : List Nat) (hL : numsW rest = some L) => show opW op rest = ⟨3, ([] : Bs), (0 : Nat), ⟨(op : Int), L.getD 0 0, L.getD 1 0⟩⟩ from by
          rw [unhide HOPW]
          unfold doesW
          rw [if_pos (by rw [hlen, hm]), hL]
          simp only [unhide HGB]
          rfl)
        have HDN := hide (fun (hL : numsW rest = none) => show opW op rest = wrongL from by
          rw [unhide HOPW]
          unfold doesW
          rw [if_pos (by rw [hlen, hm]), hL])
        have HRL2 := hide hrl2
        have e1 : (((rs.length : Int)) != (m : Int)) = false := by rw [hrl2]; simp
        have e2 : (((m : Int)) != (m : Int)) = false := by simp
        have hm2 : m ≤ 2 := hnl
        clear hlen hm hnl hrl2
        go_upto_region 20 with (go_at_call 30; (with_reducible refine (unhide HN1 _ (Chg.refl _ _)).mono ?_); rintro e w4 ⟨rfl, rfl⟩)
        obtain ⟨wb, hwb⟩ : ∃ wb, wt.alloc (.cells #[.int .i64 0, .int .i64 0] 95) = wb := ⟨_, rfl⟩
        have bk := Blk.new wt 95 #[.int .i64 0, .int .i64 0]
        have hcb : Chg (fun _ => False) wt (wt.alloc (.cells #[.int .i64 0, .int .i64 0] 95)) := (Chg.refl _ wt).alloc _
        rw [hwb] at bk hcb
        obtain ⟨g12, hg12⟩ : ∃ g12, wt.heap.size = g12 := ⟨_, rfl⟩
        rw [hg12] at bk
        rw [hwb, hg12]
        have hgk := (unhide HK).lt
        have hgs := (unhide HCT).size
        rw [hg12] at hgk hgs
        have HRB := hide (fun W (hW : Chg (fun j => j = g12) wb W) => (unhide HRD).chg (hcb.trans hW (fun i hi h => by omega)) (S := fun _ => False) (fun _ _ _ => id))
        have HKB := hide (fun W (hW : Chg (fun j => j = g12) wb W) => ((unhide HK).chg hcb id).chg hW (show ¬ w.heap.size = g12 by omega))
        have HCB := hide (fun W (hW : Chg (fun j => j = g12) wb W) => ((unhide HCT).trans' hcb).trans hW (fun i hi h => by have : i = g12 := h; omega))
        have HB0 := hide bk
        have HNE := hide (show g12 ≠ w.heap.size by omega)
        have HG12 := hide hgs
        have HLB2 := hide (fun W (hW : Chg (fun j => j = g12) wb W) => (unhide HLY _ (Chg.refl _ wt)).chg (hcb.trans hW (S := fun _ => False) (fun i hi h => by omega)) (fun _ _ => id))
        clear bk hcb hwb hg12 hgk hgs y0 y1 y2 z0 z1 z2
        go_wp2_with fail
        go_loopw [80] (fun kv wr => ∃ k : Nat, kv = .int .i64 (k : Int) ∧ k ≤ rs.length ∧ Blk wr g12 95 #[.int .i64 ((nP (rs.take k)).getD 0 0), .int .i64 ((nP (rs.take k)).getD 1 0)] ∧ Chg (fun j => j = g12) wb wr ∧ ∀ x ∈ rs.take k, (numP x).2 = true) (fun kv _ => rs.length - (intOf kv).toNat)
        case atStart => exact ⟨0, rfl, Nat.zero_le _, unhide HB0, Chg.refl _ _, by intro x hx; cases hx⟩
        case round =>
          clear HB0
          obtain ⟨wz, rfl⟩ : ∃ wz : World, wz = wr := ⟨_, rfl⟩
          obtain ⟨k, rfl, hk, hbk, hch, hgood⟩ := hrel
          have HCH := hide hch
          have HGD := hide hgood
          have HBK := hide hbk
          by_cases hlt : k < rs.length
          · have hki : (k : Int) < (rs.length : Int) := by omega
            obtain ⟨b, o, rfl, _, hat⟩ := map_at ((unhide HRB) _ hch) (by rintro rfl; simp at hlt)
            have k1 := hat k hlt
            have hxx : rs[k]? = some rs[k] := List.getElem?_eq_getElem hlt
            generalize rs[k] = x at *
            simp only [bv] at k1
            have hxl := (unhide HML) x (List.mem_of_getElem? hxx)
            have HNU := hide (fun W => number_bs x hxl W)
            cases hok : (numP x).2 with
            | false =>
              rw [hok] at HNU
              have HRE := hide ((unhide HDN) (nP_none (by rw [unhide HRS]; exact List.mem_of_getElem? hxx) hok))
              generalize (numP x).1 = nx at *
              have HKZ := hide ((unhide HKB) _ hch)
              (obtain ⟨⟨y0, y1, y2⟩, z0, z1, z2⟩ := (unhide HKZ).all3)
              clear hbk hch hgood hat hxx hok
              go_wp2_with (go_at_call 60; (with_reducible refine (unhide HNU _).mono ?_); rintro e w5 ⟨rfl, hc5⟩; have HC5 := hide hc5; have HK5 := hide ((unhide HKZ).chg hc5 id); clear y0 y1 y2 z0 z1 z2; (obtain ⟨⟨y0, y1, y2⟩, z0, z1, z2⟩ := (unhide HK5).all3); clear hc5)
              exact bodyPost_ret (read_res (put3_blk (unhide HK5) _ _ _) _ _ _ rfl rfl rfl) rfl ⟨retv (by rw [unhide HRE]; rfl), put3_chg (((unhide HCB) _ (unhide HCH)).trans' (unhide HC5)) (Nat.le_refl _) _ _ _⟩
            | true =>
              rw [hok] at HNU
              have HSN := hide (nP_snoc hxx)
              have HGN := hide (show ∀ y ∈ rs.take (k + 1), (numP y).2 = true from by
                rw [take_snoc' hxx]
                intro y hy
                rcases List.mem_append.1 hy with hy | hy
                · exact hgood y hy
                · rw [List.mem_singleton] at hy; subst hy; exact hok)
              have hvl := nP_len (rs.take k)
              rw [List.length_take] at hvl
              have hk2 : k = 0 ∨ k = 1 := by have := unhide HRL2; omega
              have hvk : (nP (rs.take k)).length = k := by omega
              generalize nP (rs.take k) = V0 at *
              generalize (numP x).1 = nx at *
              obtain ⟨⟨u0, u1⟩, v0, v1⟩ := hbk.all2
              clear hch hgood hat hxx hok hvl HRB HKB
              rcases hk2 with rfl | rfl
              · rw [Nat.add_zero] at k1
                have HVK := hide hvk
                clear hvk
                go_wp2_with (go_at_call 60; (with_reducible refine (unhide HNU _).mono ?_); rintro e w5 ⟨rfl, hc5⟩; have HC5 := hide hc5; have HB5 := hide ((unhide HBK).chg hc5 id); clear u0 u1 v0 v1; (obtain ⟨⟨u0, u1⟩, v0, v1⟩ := (unhide HB5).all2); clear hc5)
                go_roundw
                case rel =>
                  obtain rfl : V0 = [] := List.length_eq_zero_iff.1 (unhide HVK)
                  refine ⟨1, rfl, by omega, ?_, ((unhide HCH).trans (unhide HC5) (fun _ _ h => h.elim)).setCell (fun _ => rfl) _, unhide HGN⟩
                  rw [unhide HSN]
                  exact (unhide HB5).set_ 0 _
                case measure => simp [intOf]; omega
              · have HVK := hide hvk
                clear hvk
                go_wp2_with (go_at_call 60; (with_reducible refine (unhide HNU _).mono ?_); rintro e w5 ⟨rfl, hc5⟩; have HC5 := hide hc5; have HB5 := hide ((unhide HBK).chg hc5 id); clear u0 u1 v0 v1; (obtain ⟨⟨u0, u1⟩, v0, v1⟩ := (unhide HB5).all2); clear hc5)
                go_roundw
                case rel =>
                  refine ⟨2, rfl, by omega, ?_, ((unhide HCH).trans (unhide HC5) (fun _ _ h => h.elim)).setCell (fun _ => rfl) _, unhide HGN⟩
                  rw [unhide HSN]
                  obtain ⟨a, rfl⟩ : ∃ a, V0 = [a] := List.length_eq_one_iff.1 (unhide HVK)
                  exact (unhide HB5).set_ 1 _
                case measure => simp [intOf]; omega
          · obtain rfl : k = rs.length := by omega
            have hki : ¬ ((rs.length : Nat) : Int) < (rs.length : Int) := by omega
            rw [List.take_length] at hbk hgood
            rw [← unhide HRS] at hbk hgood
            obtain ⟨L, hL1, hL2⟩ := nP_some hgood
            rw [hL2, getD_map_nat, getD_map_nat] at hbk
            have HRE := hide ((unhide HDW) L hL1)
            generalize L.getD 0 0 = q0 at *
            generalize L.getD 1 0 = q1 at *
            have HKZ := hide ((unhide HKB) _ hch)
            have HGOZ := hide (goes_any (op : Int) wz)
            have hgg := unhide HGB
            rw [hgg] at HGOZ
            (obtain ⟨⟨y0, y1, y2⟩, z0, z1, z2⟩ := (unhide HKZ).all3)
            obtain ⟨⟨u0, u1⟩, v0, v1⟩ := hbk.all2
            clear hbk hch hgood hL1 hL2 HGD hgg
            go_upto_region 30 with (go_at_call 26; (with_reducible refine (unhide HGOZ).mono ?_); rintro e w4 ⟨rfl, rfl⟩)
            refine r41_30 _ _ _ _ _ _ _ _ _ _ _ _ _ _ _ _ _ _ _ _ _ _ _ _ _ _ _ _ _ _ _ _ _ _ _ _ _ _ _ _ _ _ _ _ _ _ _ _ _ _ _ _ _ _ _ _ _ _ _ _ _ _ _ _ _ _ _ _ _ _ _ _ _ _ _ _ _ _ _ _ _ _ _ _ _ _ _ _ _ _ _ _ _ _ _ _ _ _ _ _ _ _ _ _ _ _ _ _ w.heap.size g12 (op : Int) (q0 : Int) (q1 : Int) u0 u1 y0 y1 y2 z0 z1 z2 (unhide HNE) _ ?_
            intro y104 y105 y106 y107 y108 y109
            go_wp2_with fail
            exact bodyPost_ret (read_res (Blk.drew (put3_blk (unhide HKZ) _ _ _)) _ _ _ rfl rfl rfl) rfl ⟨retv (by rw [unhide HRE]; rfl), Chg.drew (put3_chg ((unhide HCB) _ (unhide HCH)) (Nat.le_refl _) _ _ _)⟩
      · have hR : opW op rest = wrongL := by
          rw [unhide HOPW]
          unfold doesW
          rw [if_neg hlen]
        obtain ⟨m, hm⟩ : ∃ m, numsN (op : Int) = m := ⟨_, rfl⟩
        rw [hm] at hlen hnl
        have hrl2 : rs.length = rest.length := by rw [← unhide HRS, List.length_map]
        have HN1 := hide (fun W (hW : Chg (fun _ => False) wt W) => numbers_of op m hm W (unhide HLY _ hW))
        have HRE := hide hR
        have e1 : ((rs.length : Int) != (m : Int)) = true := by rw [bne_iff_ne]; omega
        have e2 : ¬ (rs.length : Int) = (m : Int) := by omega
        clear hR hm hrl2
        go_wp2_with (go_at_call 30; (with_reducible refine (unhide HN1 _ (Chg.refl _ _)).mono ?_); rintro e w4 ⟨rfl, rfl⟩)
        exact bodyPost_ret (read_res (put3_blk (unhide HK) _ _ _) _ _ _ rfl rfl rfl) rfl ⟨retv (by rw [unhide HRE]; rfl), put3_chg (unhide HCT) (Nat.le_refl _) _ _ _⟩
    | true =>
      rw [hg] at HGO
      have HGB := hide hg
      cases rest with
      | nil =>
        have hrs0 : ([] : List Bs) = rs := unhide HRS
        subst hrs0
        have HRE := hide (show opW op [] = wrongL by unfold opW; rw [if_pos hg])
        (obtain ⟨⟨y0, y1, y2⟩, z0, z1, z2⟩ := (unhide HK).all3)
        clear hg
        go_wp2_with (go_at_call 26; (with_reducible refine (unhide HGO).mono ?_); rintro e w4 ⟨rfl, rfl⟩)
        exact bodyPost_ret (read_res (put3_blk (unhide HK) _ _ _) _ _ _ rfl rfl rfl) rfl ⟨retv (by rw [unhide HRE]; rfl), put3_chg (unhide HCT) (Nat.le_refl _) _ _ _⟩
      | cons y r2 =>
        obtain ⟨s1, p1⟩ := y
        have hOP : opW op ((s1, p1) :: r2) = if labelB s1 = true then doesW op s1 p1 r2 else wrongL := by unfold opW; rw [if_pos hg]
        clear hg
        obtain ⟨rs2, hrs2⟩ : ∃ rs2, r2.map Prod.fst = rs2 := ⟨_, rfl⟩
        have hrs1 := unhide HRS
        rw [List.map_cons, hrs2] at hrs1
        simp only at hrs1
        subst hrs1
        have hl1 := (unhide HML) s1 (by simp)
        have HML2 := hide (show ∀ x ∈ rs2, x.length ≤ 1000000000 from fun x hx => (unhide HML) x (by simp [hx]))
        have HLB := hide (fun W => label_bs s1 hl1 W)
        obtain ⟨b1, o1, rfl, _, k1⟩ := row_head (unhide HRD)
        have hl2 : ((rs2.length : Int) + 1 == 0) = false := beq_eq_false_iff_ne.2 (by omega)
        rw [List.length_cons] at hrl0 hbb hc1n
        have hrl2 : rs2.length ≤ 100000000 := by omega
        have HRS2 := hide hrs2
        clear HRS HML hrs2
        (obtain ⟨⟨y0, y1, y2⟩, z0, z1, z2⟩ := (unhide HK).all3)
        cases hlb : labelB s1 with
        | false =>
          rw [hlb] at HLB
          have HRE := hide (show opW op ((s1, p1) :: r2) = wrongL by rw [hOP, hlb, if_neg (by simp)])
          clear hOP hlb
          go_wp2_with (first
            | (go_at_call 26; (with_reducible refine (unhide HGO).mono ?_); rintro e w4 ⟨rfl, rfl⟩)
            | (go_at_call 58; (with_reducible refine (unhide HLB _).mono ?_); rintro e w4 ⟨rfl, hc4⟩; have HC4 := hide hc4; have HK4 := hide ((unhide HK).chg hc4 id); clear y0 y1 y2 z0 z1 z2; (obtain ⟨⟨y0, y1, y2⟩, z0, z1, z2⟩ := (unhide HK4).all3); clear hc4))
          exact bodyPost_ret (read_res (put3_blk (unhide HK4) _ _ _) _ _ _ rfl rfl rfl) rfl ⟨retv (by rw [unhide HRE]; rfl), put3_chg ((unhide HCT).trans' (unhide HC4)) (Nat.le_refl _) _ _ _⟩
        | true =>
          rw [hlb] at HLB
          have HOPW := hide (show opW op ((s1, p1) :: r2) = doesW op s1 p1 r2 by rw [hOP, hlb, if_pos rfl])
          clear hOP hlb
          go_upto_region 16 with (first
            | (go_at_call 26; (with_reducible refine (unhide HGO).mono ?_); rintro e w4 ⟨rfl, rfl⟩)
            | (go_at_call 58; (with_reducible refine (unhide HLB _).mono ?_); rintro e w4 ⟨rfl, hc4⟩; have HC4 := hide hc4; clear y0 y1 y2 z0 z1 z2; clear hc4))
          have k2 := ((unhide HC4).cell (World.block_lt_of_cell? _ _ k1) id).trans k1
          refine r41_16 _ _ _ _ _ _ _ _ _ _ _ _ _ _ _ _ _ _ _ _ _ _ _ _ _ _ _ _ _ _ _ _ _ _ _ _ _ _ _ _ _ _ _ _ _ _ _ _ _ _ _ _ _ _ _ _ _ _ _ _ _ _ _ _ _ _ _ _ _ _ _ _ _ _ _ _ _ _ _ _ _ _ _ _ _ _ _ _ _ _ _ _ _ _ _ _ _ _ _ _ _ _ _ _ _ _ _ _ _ w4 b1 o1 (rs2.length + 1) c1 ⟨s1.toArray⟩ (by omega) (by omega) hc1n (by omega) (by omega) (by omega) k2 _ ?_
          intro y67 y68 y69 y70
          rw [Nat.add_sub_cancel]
          have hTL := (row_tail ((unhide HRD).chg (unhide HC4) (fun _ _ _ => id)) hc1n).low
          generalize (if c1 = 1 then some (⟨b1, o1, none⟩ : Addr) else some ⟨b1, o1 + 1, none⟩) = A2 at *
          obtain ⟨c2, hc2⟩ : ∃ c2, c1 - 1 = c2 := ⟨_, rfl⟩
          rw [hc2]
          have hk := ((unhide HK).chg (unhide HC4) id).drew
          have hct := ((unhide HCT).trans' (unhide HC4)).drew
          have hrd : Rd (fun b => b < w4.drew.heap.size) w4.drew A2 (rs2.map bv) := hTL
          have hly := fun W (hW : Chg (fun _ => False) w4.drew W) => unhide HLY W ((unhide HC4).drew.trans' hW)
          generalize w4.drew = wt2 at hk hct hrd hly ⊢
          clear HK HRD HCT HLY hTL k1 k2 hc2 HC4
          have HK := hide hk
          have HCT := hide hct
          have HRD := hide hrd
          have HLY := hide hly
          have HRS := HRS2
          have HML := HML2
          clear hk hct hrd hly HRS2 HML2
          have hnl := numsN_le (op : Int)
          (obtain ⟨⟨y0, y1, y2⟩, z0, z1, z2⟩ := (unhide HK).all3)
          by_cases hlen : r2.length = numsN (op : Int)
          · obtain ⟨m, hm⟩ : ∃ m, numsN (op : Int) = m := ⟨_, rfl⟩
            rw [hm] at hlen hnl
            have hrl2 : rs2.length = m := by rw [← unhide HRS, List.length_map, hlen]
            have HN1 := hide (fun W (hW : Chg (fun _ => False) wt2 W) => numbers_of op m hm W (unhide HLY _ hW))
            have HDW := hide (fun (L : List Nat) (hL : numsW r2 = some L) => show opW op ((s1, p1) :: r2) = ⟨3, s1, p1, ⟨(op : Int), 0, L.getD 0 0⟩⟩ from by
              rw [unhide HOPW]
              unfold doesW
              rw [if_pos (by rw [hlen, hm]), hL]
              simp only [unhide HGB]
              rfl)
            have HDN := hide (fun (hL : numsW r2 = none) => show opW op ((s1, p1) :: r2) = wrongL from by
              rw [unhide HOPW]
              unfold doesW
              rw [if_pos (by rw [hlen, hm]), hL])
            have HRL2 := hide hrl2
            have e1 : (((rs2.length : Int)) != (m : Int)) = false := by rw [hrl2]; simp
            have e2 : (((m : Int)) != (m : Int)) = false := by simp
            have hm2 : m ≤ 2 := hnl
            clear hlen hm hnl hrl2
            go_upto_region 20 with (go_at_call 30; (with_reducible refine (unhide HN1 _ (Chg.refl _ _)).mono ?_); rintro e w4 ⟨rfl, rfl⟩)
            obtain ⟨wb, hwb⟩ : ∃ wb, wt2.alloc (.cells #[.int .i64 0, .int .i64 0] 95) = wb := ⟨_, rfl⟩
            have bk := Blk.new wt2 95 #[.int .i64 0, .int .i64 0]
            have hcb : Chg (fun _ => False) wt2 (wt2.alloc (.cells #[.int .i64 0, .int .i64 0] 95)) := (Chg.refl _ wt2).alloc _
            rw [hwb] at bk hcb
            obtain ⟨g12, hg12⟩ : ∃ g12, wt2.heap.size = g12 := ⟨_, rfl⟩
            rw [hg12] at bk
            rw [hwb, hg12]
            have hgk := (unhide HK).lt
            have hgs := (unhide HCT).size
            rw [hg12] at hgk hgs
            have HRB := hide (fun W (hW : Chg (fun j => j = g12) wb W) => (unhide HRD).chg (hcb.trans hW (fun i hi h => by omega)) (S := fun _ => False) (fun _ _ _ => id))
            have HKB := hide (fun W (hW : Chg (fun j => j = g12) wb W) => ((unhide HK).chg hcb id).chg hW (show ¬ w.heap.size = g12 by omega))
            have HCB := hide (fun W (hW : Chg (fun j => j = g12) wb W) => ((unhide HCT).trans' hcb).trans hW (fun i hi h => by have : i = g12 := h; omega))
            have HB0 := hide bk
            have HNE := hide (show g12 ≠ w.heap.size by omega)
            have HG12 := hide hgs
            have HLB2 := hide (fun W (hW : Chg (fun j => j = g12) wb W) => (unhide HLY _ (Chg.refl _ wt2)).chg (hcb.trans hW (S := fun _ => False) (fun i hi h => by omega)) (fun _ _ => id))
            clear bk hcb hwb hg12 hgk hgs y0 y1 y2 z0 z1 z2
            go_wp2_with fail
            go_loopw [80] (fun kv wr => ∃ k : Nat, kv = .int .i64 (k : Int) ∧ k ≤ rs2.length ∧ Blk wr g12 95 #[.int .i64 ((nP (rs2.take k)).getD 0 0), .int .i64 ((nP (rs2.take k)).getD 1 0)] ∧ Chg (fun j => j = g12) wb wr ∧ ∀ x ∈ rs2.take k, (numP x).2 = true) (fun kv _ => rs2.length - (intOf kv).toNat)
            case atStart => exact ⟨0, rfl, Nat.zero_le _, unhide HB0, Chg.refl _ _, by intro x hx; cases hx⟩
            case round =>
              clear HB0
              obtain ⟨wz, rfl⟩ : ∃ wz : World, wz = wr := ⟨_, rfl⟩
              obtain ⟨k, rfl, hk, hbk, hch, hgood⟩ := hrel
              have HCH := hide hch
              have HGD := hide hgood
              have HBK := hide hbk
              by_cases hlt : k < rs2.length
              · have hki : (k : Int) < (rs2.length : Int) := by omega
                obtain ⟨b, o, rfl, _, hat⟩ := map_at ((unhide HRB) _ hch) (by rintro rfl; simp at hlt)
                have k1 := hat k hlt
                have hxx : rs2[k]? = some rs2[k] := List.getElem?_eq_getElem hlt
                generalize rs2[k] = x at *
                simp only [bv] at k1
                have hxl := (unhide HML) x (List.mem_of_getElem? hxx)
                have HNU := hide (fun W => number_bs x hxl W)
                cases hok : (numP x).2 with
                | false =>
                  rw [hok] at HNU
                  have HRE := hide ((unhide HDN) (nP_none (by rw [unhide HRS]; exact List.mem_of_getElem? hxx) hok))
                  generalize (numP x).1 = nx at *
                  have HKZ := hide ((unhide HKB) _ hch)
                  (obtain ⟨⟨y0, y1, y2⟩, z0, z1, z2⟩ := (unhide HKZ).all3)
                  clear hbk hch hgood hat hxx hok
                  go_wp2_with (go_at_call 60; (with_reducible refine (unhide HNU _).mono ?_); rintro e w5 ⟨rfl, hc5⟩; have HC5 := hide hc5; have HK5 := hide ((unhide HKZ).chg hc5 id); clear y0 y1 y2 z0 z1 z2; (obtain ⟨⟨y0, y1, y2⟩, z0, z1, z2⟩ := (unhide HK5).all3); clear hc5)
                  exact bodyPost_ret (read_res (put3_blk (unhide HK5) _ _ _) _ _ _ rfl rfl rfl) rfl ⟨retv (by rw [unhide HRE]; rfl), put3_chg (((unhide HCB) _ (unhide HCH)).trans' (unhide HC5)) (Nat.le_refl _) _ _ _⟩
                | true =>
                  rw [hok] at HNU
                  have HSN := hide (nP_snoc hxx)
                  have HGN := hide (show ∀ y ∈ rs2.take (k + 1), (numP y).2 = true from by
                    rw [take_snoc' hxx]
                    intro y hy
                    rcases List.mem_append.1 hy with hy | hy
                    · exact hgood y hy
                    · rw [List.mem_singleton] at hy; subst hy; exact hok)
                  have hvl := nP_len (rs2.take k)
                  rw [List.length_take] at hvl
                  have hk2 : k = 0 ∨ k = 1 := by have := unhide HRL2; omega
                  have hvk : (nP (rs2.take k)).length = k := by omega
                  generalize nP (rs2.take k) = V0 at *
                  generalize (numP x).1 = nx at *
                  obtain ⟨⟨u0, u1⟩, v0, v1⟩ := hbk.all2
                  clear hch hgood hat hxx hok hvl HRB HKB
                  rcases hk2 with rfl | rfl
                  · rw [Nat.add_zero] at k1
                    have HVK := hide hvk
                    clear hvk
                    go_wp2_with (go_at_call 60; (with_reducible refine (unhide HNU _).mono ?_); rintro e w5 ⟨rfl, hc5⟩; have HC5 := hide hc5; have HB5 := hide ((unhide HBK).chg hc5 id); clear u0 u1 v0 v1; (obtain ⟨⟨u0, u1⟩, v0, v1⟩ := (unhide HB5).all2); clear hc5)
                    go_roundw
                    case rel =>
                      obtain rfl : V0 = [] := List.length_eq_zero_iff.1 (unhide HVK)
                      refine ⟨1, rfl, by omega, ?_, ((unhide HCH).trans (unhide HC5) (fun _ _ h => h.elim)).setCell (fun _ => rfl) _, unhide HGN⟩
                      rw [unhide HSN]
                      exact (unhide HB5).set_ 0 _
                    case measure => simp [intOf]; omega
                  · have HVK := hide hvk
                    clear hvk
                    go_wp2_with (go_at_call 60; (with_reducible refine (unhide HNU _).mono ?_); rintro e w5 ⟨rfl, hc5⟩; have HC5 := hide hc5; have HB5 := hide ((unhide HBK).chg hc5 id); clear u0 u1 v0 v1; (obtain ⟨⟨u0, u1⟩, v0, v1⟩ := (unhide HB5).all2); clear hc5)
                    go_roundw
                    case rel =>
                      refine ⟨2, rfl, by omega, ?_, ((unhide HCH).trans (unhide HC5) (fun _ _ h => h.elim)).setCell (fun _ => rfl) _, unhide HGN⟩
                      rw [unhide HSN]
                      obtain ⟨a, rfl⟩ : ∃ a, V0 = [a] := List.length_eq_one_iff.1 (unhide HVK)
                      exact (unhide HB5).set_ 1 _
                    case measure => simp [intOf]; omega
              · obtain rfl : k = rs2.length := by omega
                have hki : ¬ ((rs2.length : Nat) : Int) < (rs2.length : Int) := by omega
                rw [List.take_length] at hbk hgood
                rw [← unhide HRS] at hbk hgood
                obtain ⟨L, hL1, hL2⟩ := nP_some hgood
                rw [hL2, getD_map_nat, getD_map_nat] at hbk
                have HRE := hide ((unhide HDW) L hL1)
                generalize L.getD 0 0 = q0 at *
                generalize L.getD 1 0 = q1 at *
                have HKZ := hide ((unhide HKB) _ hch)
                have HGOZ := hide (goes_any (op : Int) wz)
                have hgg := unhide HGB
                rw [hgg] at HGOZ
                (obtain ⟨⟨y0, y1, y2⟩, z0, z1, z2⟩ := (unhide HKZ).all3)
                obtain ⟨⟨u0, u1⟩, v0, v1⟩ := hbk.all2
                clear hbk hch hgood hL1 hL2 HGD hgg
                go_upto_region 29 with (go_at_call 26; (with_reducible refine (unhide HGOZ).mono ?_); rintro e w4 ⟨rfl, rfl⟩)
                refine r41_29 _ _ _ _ _ _ _ _ _ _ _ _ _ _ _ _ _ _ _ _ _ _ _ _ _ _ _ _ _ _ _ _ _ _ _ _ _ _ _ _ _ _ _ _ _ _ _ _ _ _ _ _ _ _ _ _ _ _ _ _ _ _ _ _ _ _ _ _ _ _ _ _ _ _ _ _ _ _ _ _ _ _ _ _ _ _ _ _ _ _ _ _ _ _ _ _ _ _ _ _ _ _ _ _ _ _ _ w.heap.size g12 (op : Int) (q0 : Int) ⟨(s1 : Bs).toArray⟩ u0 y0 y1 y2 z0 z1 z2 (unhide HNE) _ ?_
                intro y99 y100 y101 y102 y103
                go_wp2_with fail
                exact bodyPost_ret (read_res (Blk.drew (put3_blk (unhide HKZ) _ _ _)) _ _ _ rfl rfl rfl) rfl ⟨retv (by rw [unhide HRE]; rfl), Chg.drew (put3_chg ((unhide HCB) _ (unhide HCH)) (Nat.le_refl _) _ _ _)⟩
          · have hR : opW op ((s1, p1) :: r2) = wrongL := by
              rw [unhide HOPW]
              unfold doesW
              rw [if_neg hlen]
            obtain ⟨m, hm⟩ : ∃ m, numsN (op : Int) = m := ⟨_, rfl⟩
            rw [hm] at hlen hnl
            have hrl2 : rs2.length = r2.length := by rw [← unhide HRS, List.length_map]
            have HN1 := hide (fun W (hW : Chg (fun _ => False) wt2 W) => numbers_of op m hm W (unhide HLY _ hW))
            have HRE := hide hR
            have e1 : ((rs2.length : Int) != (m : Int)) = true := by rw [bne_iff_ne]; omega
            have e2 : ¬ (rs2.length : Int) = (m : Int) := by omega
            clear hR hm hrl2
            go_wp2_with (go_at_call 30; (with_reducible refine (unhide HN1 _ (Chg.refl _ _)).mono ?_); rintro e w4 ⟨rfl, rfl⟩)
            exact bodyPost_ret (read_res (put3_blk (unhide HK) _ _ _) _ _ _ rfl rfl rfl) rfl ⟨retv (by rw [unhide HRE]; rfl), put3_chg (unhide HCT) (Nat.le_refl _) _ _ _⟩
end Go.Proofs.YtgonllogaiiicaaDoor
